import Derived.Test.YthidedmnmdlfkaaGreatMPbnodeWritesUpto2
import Derived.Test.YthidedmnmdlfkaaGreatMPbnodeWritesUpto16
import Derived.Test.YthidedmnmdlfkaaGreatMPbnodeWritesUpto15
import Derived.Test.YthidedmnmdlfkaaGreatMPbnodeWritesUpto19
import Derived.Test.YthidedmnmdlfkaaGreatMPbnodeWritesUpto18
import Derived.Test.YthidedmnmdlfkaaGreatMPbnodeWritesUpto5
import Derived.Test.YthidedmnmdlfkaaGreatMPbnodeWritesUpto4
import Derived.Test.YthidedmnmdlfkaaGreatMPbnodeWritesUpto21
import Derived.Test.YthidedmnmdlfkaaGreatMPbnodeWritesUpto7
import Derived.Test.YthidedmnmdlfkaaGreatMPbnodeWritesUpto3
import Derived.Test.YthidedmnmdlfkaaGreatMPbnodeWritesUpto14
import Derived.Test.YthidedmnmdlfkaaGreatMPbnodeWritesUpto20
import Derived.Test.YthidedmnmdlfkaaGreatMPbnodeWritesUpto11
import Derived.Test.YthidedmnmdlfkaaGreatMPbnodeWritesUpto17
import Derived.Test.YthidedmnmdlfkaaGreatMPbnodeWritesUpto9
import Derived.Test.YthidedmnmdlfkaaGreatMPbnodeWritesUpto10
namespace Go.Proofs.YthidedmnmdlfkaaGreat.X
open Go.RowKit Go.Proofs.YthidedmnmdlfkaaGreatW.PrintWords Go.Proofs.YthidedmnmdlfkaaGreatW.PrintLast Go.Proofs.YthidedmnmdlfkaaGreatW.PrintMore
attribute [local go_sem] max2_int min2_int max_two min_two max_three min_three max_four min_four
set_option linter.unusedVariables false
set_option linter.unusedSimpArgs false
theorem ref10ints_l0 (l : List Int) (hl : l.length < 9223372036854775807) (d : Nat) : ∀ (k i : Nat), l.length - i = d → i ≤ l.length → d < k → agateref10_Ints.l0 k l l (i : Int) = some true := by
  induction d with
  | zero =>
    intro k i hd hi hk
    obtain ⟨k, rfl⟩ : ∃ m, k = m + 1 := ⟨k - 1, by omega⟩
    simp only [agateref10_Ints.l0]
    rw [if_neg (by omega)]
  | succ d ih =>
    intro k i hd hi hk
    obtain ⟨k, rfl⟩ : ∃ m, k = m + 1 := ⟨k - 1, by omega⟩
    simp only [agateref10_Ints.l0]
    rw [if_pos (by omega), if_pos (by omega), if_pos (by omega), if_pos trivial, wrap64_id (by omega) (by omega)]
    exact ih k (i + 1) (by omega) (by omega) (by omega)
theorem ref10ints_f (l : List Int) (hl : l.length < 9223372036854775807) (k : Nat) (hk : l.length < k) : agateref10_Ints.f k l l = some true := by
  unfold agateref10_Ints.f
  rw [if_pos rfl]
  exact ref10ints_l0 l hl l.length k 0 (by omega) (by omega) hk
theorem same11_f (nm : ByteArray) (kd : Int) (dims : List Int) (hl : dims.length < 9223372036854775807) : ∃ k, agatelaw11_same.f k nm kd dims nm kd dims = some true := by
  refine ⟨dims.length + 1, ?_⟩
  unfold agatelaw11_same.f
  rw [if_pos rfl, if_pos rfl, ref10ints_f dims hl _ (by omega)]; rfl
theorem attrs_back (a : S65) (hl : a.f3.length < 9223372036854775807) (k : Nat) (hk : a.f3.length < k) :
    agateref10_Attrs.f k (toA (nrmA a)).f0 (toA (nrmA a)).f1 (toA (nrmA a)).f2 (toA (nrmA a)).f3 (toA a).f0 (toA a).f1 (toA a).f2 (toA a).f3 = some true := by
  have hi := ref10ints_f a.f3 hl k hk
  obtain ⟨n, o, v, r⟩ := a
  cases o
  · show agateref10_Attrs.f k n false 0 r n false v r = some true
    unfold agateref10_Attrs.f
    have hi' : agateref10_Ints.f k r r = some true := hi
    rw [hi']; simp
  · show agateref10_Attrs.f k n true v [] n true v r = some true
    unfold agateref10_Attrs.f
    simp
theorem nodes_l1 (op : ByteArray) (ins : List ByteArray) (out : ByteArray) (al : List S65) (hal : al.length ≤ 1048576) (h3 : ∀ a ∈ al, a.f3.length ≤ 1048576) (d : Nat) : ∀ (k i : Nat), al.length - i = d → i ≤ al.length → 1048577 + d < k →
    agateref10_Nodes.l1 k (i : Int) op ins out ((al.map nrmA).map toA) op ins out (al.map toA) = some true := by
  induction d with
  | zero =>
    intro k i hd hi hk
    obtain ⟨k, rfl⟩ : ∃ m, k = m + 1 := ⟨k - 1, by omega⟩
    simp only [agateref10_Nodes.l1]
    rw [if_neg (by simp only [List.length_map]; omega)]
  | succ d ih =>
    intro k i hd hi hk
    obtain ⟨k, rfl⟩ : ∃ m, k = m + 1 := ⟨k - 1, by omega⟩
    have hlt : i < al.length := by omega
    have e0 : rd_T50 ((al.map nrmA).map toA) (i : Int) = toA (nrmA al[i]) := by simp [rd_T50, hlt]
    have e1 : rd_T50 (al.map toA) (i : Int) = toA al[i] := by simp [rd_T50, hlt]
    have hm := h3 al[i] (List.getElem_mem hlt)
    simp only [agateref10_Nodes.l1]
    rw [if_pos (by simp only [List.length_map]; omega), if_pos (by omega), if_pos (by simp only [List.length_map]; omega), e0, e1, attrs_back al[i] (by omega) k (by omega), Option.bind_some, if_pos rfl, wrap64_id (by omega) (by omega)]
    exact ih k (i + 1) (by omega) (by omega) (by omega)
theorem nodes_l0 (op : ByteArray) (ins : List ByteArray) (out : ByteArray) (al : List S65) (hil : ins.length ≤ 1048576) (hal : al.length ≤ 1048576) (h3 : ∀ a ∈ al, a.f3.length ≤ 1048576) (d : Nat) : ∀ (k i : Nat), ins.length - i = d → i ≤ ins.length → 2097154 + d < k →
    agateref10_Nodes.l0 k (i : Int) op ins out ((al.map nrmA).map toA) op ins out (al.map toA) = some true := by
  induction d with
  | zero =>
    intro k i hd hi hk
    obtain ⟨k, rfl⟩ : ∃ m, k = m + 1 := ⟨k - 1, by omega⟩
    simp only [agateref10_Nodes.l0]
    rw [if_neg (by omega)]
    exact nodes_l1 op ins out al hal h3 al.length k 0 (by omega) (by omega) (by omega)
  | succ d ih =>
    intro k i hd hi hk
    obtain ⟨k, rfl⟩ : ∃ m, k = m + 1 := ⟨k - 1, by omega⟩
    simp only [agateref10_Nodes.l0]
    rw [if_pos (by omega), if_pos (by omega), if_pos (by omega), if_pos trivial, wrap64_id (by omega) (by omega)]
    exact ih k (i + 1) (by omega) (by omega) (by omega)
theorem nodes_back (op : ByteArray) (ins : List ByteArray) (out : ByteArray) (al : List S65) (hil : ins.length ≤ 1048576) (hal : al.length ≤ 1048576) (h3 : ∀ a ∈ al, a.f3.length ≤ 1048576) :
    ∃ k, agateref10_Nodes.f k op ins out ((al.map nrmA).map toA) op ins out (al.map toA) = some true := by
  refine ⟨4000000, ?_⟩
  have e : ((((al.map nrmA).map toA).length : Int) != ((al.map toA).length : Int)) = false := by simp only [List.length_map]; simp
  unfold agateref10_Nodes.f
  rw [if_pos rfl, if_pos rfl, if_pos rfl, e, show (4000000 : Nat) = 3999999 + 1 from rfl]
  simp only [agateref10_Nodes.j0]
  rw [if_neg Bool.false_ne_true]
  exact nodes_l0 op ins out al hil hal h3 ins.length 3999999 0 (by omega) (by omega) (by omega)
theorem attrC_read (a : S65) (h : mayA a) : attrC (laidF (fieldsA a)) = nrmA a := by
  obtain ⟨n, i, k, row, hA, hE⟩ := attr_read a h
  unfold attrC
  rw [show lastL (laidF (fieldsA a)) 1 = n from hA.hn, show lastL (laidF (fieldsA a)) 3 = i from hA.hi, show lastL (laidF (fieldsA a)) 20 = k from hA.hk]
  rw [show intsL (((msgL (laidF (fieldsA a))).filter fun x => x.f0 == 8).map flP) [] = (row, 0) from hA.row8]
  exact hE
theorem readNode_f {op : ByteArray} {ins : List ByteArray} {out : ByteArray} {al : List S65} (h : MayN op ins out al) : pbnode_ReadNode.f (laidF (fieldsN op ins out al)) = some (op, ins, out, al.map nrmA, 0) := by
  have hm := node_read h
  have hA : (al.map (fun a => laidF (fieldsA a))).map attrC = al.map nrmA := by
    rw [List.map_map]
    exact List.map_congr_left (fun a ha => attrC_read a (h.each a ha))
  generalize laidF (fieldsN op ins out al) = b at hm ⊢
  have e2 : textsOf b 2 = [out] := by
    show (textsL ((((fieldsS b).1.map toP).filter fun x => x.f0 == 2).map flP) []).1 = _
    rw [hm.t2]
  have e5 : textsOf b 5 = al.map (fun a => laidF (fieldsA a)) := by
    show (textsL ((((fieldsS b).1.map toP).filter fun x => x.f0 == 5).map flP) []).1 = _
    rw [hm.t5]
  have e1 : textsOf b 1 = ins := by
    show (textsL ((((fieldsS b).1.map toP).filter fun x => x.f0 == 1).map flP) []).1 = _
    rw [hm.t1]
  have e4 : lastL b 4 = some (fldT 4 op) := hm.o4
  have e7 : lastL b 7 = none := hm.o7
  have hp : nodeP b := by
    unfold nodeP
    rw [e2, e1, e5, e4, e7, hA]
    exact hm
  unfold pbnode_ReadNode.f
  rw [if_pos hp, e2, e1, e5, e4, hA]
  rfl
theorem readInfo_f (nm : ByteArray) (kd : Int) (dims : List Int) (hn : nameR nm = true) (hns : nm.size ≤ 6000) (hk : 0 < sizeK kd) (hd : ∀ x ∈ dims, inRc x) (h6 : dims.length ≤ 6000) : pbnode_ReadInfo.f (laidF (fieldsI nm kd dims)) = some (nm, kd, dims, 0) := by
  have hm := info_read nm kd dims hn hns hk hd h6
  generalize laidF (fieldsI nm kd dims) = b at hm ⊢
  generalize laidF [fldT 1 (laidF [fldN 1 (IntKind.u64.wrap kd), fldT 2 (laidF (fieldsD dims))])] = s1 at hm
  generalize laidF [fldN 1 (IntKind.u64.wrap kd), fldT 2 (laidF (fieldsD dims))] = s2 at hm
  generalize laidF (fieldsD dims) = s3 at hm
  have e1 : text1 b 2 = s1 := by
    show ((textsL ((((fieldsS b).1.map toP).filter fun x => x.f0 == 2).map flP) []).1).headD _ = _
    rw [hm.t1]; rfl
  have e2 : text1 s1 1 = s2 := by
    show ((textsL ((((fieldsS s1).1.map toP).filter fun x => x.f0 == 1).map flP) []).1).headD _ = _
    rw [hm.t2]; rfl
  have e3 : text1 s2 2 = s3 := by
    show ((textsL ((((fieldsS s2).1.map toP).filter fun x => x.f0 == 2).map flP) []).1).headD _ = _
    rw [hm.t3]; rfl
  have e4 : textsOf s3 1 = dims.map dimT := by
    show (textsL ((((fieldsS s3).1.map toP).filter fun x => x.f0 == 1).map flP) []).1 = _
    rw [hm.t4]
  have e5 : lastL b 1 = some (fldT 1 nm) := hm.hn
  have e6 : lastL s2 1 = some (fldN 1 kd) := hm.hk
  have e7 : (dims.map dimT).map dimOf = dims := by
    apply List.ext_getElem
    · rw [List.length_map, List.length_map]
    · intro j hj hj2
      have hj3 : j < (dims.map dimT).length := by rw [List.length_map]; exact hj2
      obtain ⟨_, _, _, y, hy, _, hv⟩ := hm.each j hj3 hj2
      rw [List.getElem_map]
      unfold dimOf
      rw [show lastL (dims.map dimT)[j] 1 = some y from hy]
      exact hv
  have hp : infoP b := by
    unfold infoP
    rw [e1, e2, e3, e4, e5, e6, e7]
    exact hm
  unfold pbnode_ReadInfo.f
  rw [if_pos hp, e1, e2, e3, e4, e5, e6, e7]
  rfl
def agateref04_Size.j0 : Nat → Int → Bool → Option (Int)
  | 0, _, _ => none
  | k + 1, x3, x6 => if x6 = true then (some 1) else (if x3 = 7 then (some 8) else (if x3 = 14 then (some 8) else (some 0)))
def agateref04_Size.f (k : Nat) (a0 : Int) : Option (Int) := if a0 = 1 then (some 4) else (if a0 = 2 then (agateref04_Size.j0 k a0 (a0 == 2)) else (agateref04_Size.j0 k a0 (a0 == 9)))
set_option maxHeartbeats 8000000 in
set_option maxRecDepth 100000 in
theorem agateref04_Size.calls (k : Nat) (a0 : Int) (r : Int) (w : World) (h : agateref04_Size.f k a0 = some r) :
    Calls Tryz.prog 16 #[.int .i64 a0] w fun e w' => e = .returned (.int .i64 r) ∧ Drawn0 w w' := by
  have H : (if a0 = 1 then (some 4) else (if a0 = 2 then (agateref04_Size.j0 k a0 (a0 == 2)) else (agateref04_Size.j0 k a0 (a0 == 9)))) = some r := h; clear h
  by_cases c2 : a0 = 1
  · rw [if_pos c2] at H
    have c2b0 := beq_iff_eq.mpr c2; have c2b1 := bne_eq_false_iff_eq.mpr c2; clear c2; obtain rfl := Option.some.inj H
    go_enter Tryz.func16, Tryz.ntmps16
    go_wp2
    go_ret
    exact ⟨by first | rfl | (simp; done) | (simp [*]; done), by repeat (first | exact Drawn0.refl _ | apply Drawn0.step)⟩
  · rw [if_neg c2] at H
    have c2b0 := beq_eq_false_iff_ne.mpr c2; have c2b1 := bne_iff_ne.mpr c2; have HC3 := mk0 H; clear H
    go_enter Tryz.func16, Tryz.ntmps16
    go_upto_if 6 with (fail)
    go_cut [6] (fun v6 wc => ∃ (kq : Nat) (x6_2 : Bool), v6 = .bool x6_2 ∧ Aside0 (agateref04_Size.j0 kq a0 x6_2 = some r) ∧ Aside0 (kq ≤ k) ∧ Drawn0 w wc)
    case first =>
      have H := HC3.out; clear HC3
      by_cases c4 : a0 = 2
      · rw [if_pos c4] at H
        have c4b0 := beq_iff_eq.mpr c4; have c4b1 := bne_eq_false_iff_eq.mpr c4; clear c4
        (first | rw [c4b0] | (simp only [i64_w, i32_w]; rw [c4b0]) | skip)
        have H' := mk0 H; clear H
        go_wp2
        go_meet
        case rel => exact ⟨_, ((a0 == 2)), cl0, H', cl1, by repeat (first | exact Drawn0.refl _ | apply Drawn0.step)⟩
      · rw [if_neg c4] at H
        have c4b0 := beq_eq_false_iff_ne.mpr c4; have c4b1 := bne_iff_ne.mpr c4
        (first | rw [c4b0] | (simp only [i64_w, i32_w]; rw [c4b0]) | skip)
        have H' := mk0 H; clear H
        go_wp2
        go_meet
        case rel => exact ⟨_, ((a0 == 9)), cl0, H', cl1, by repeat (first | exact Drawn0.refl _ | apply Drawn0.step)⟩
    case rest =>
      clear HC3; try clear c2
      try clear c2b0
      try clear c2b1
      obtain ⟨kq, x6_2, rfl, HA, HJ2, ⟨mc2, rfl⟩⟩ := hcut
      cases kq with
      | zero => exact absurd HA.out (by simp [agateref04_Size.j0])
      | succ kj2 =>
        have H := HA.out; clear HA
        simp only [agateref04_Size.j0] at H
        by_cases c5 : x6_2 = true
        · subst c5
          have H1 : (some 1) = some r := by rw [if_pos rfl] at H; exact H
          clear H; have H := H1; clear H1; obtain rfl := Option.some.inj H
          go_wp2
          go_ret
          exact ⟨by first | rfl | (simp; done) | (simp [*]; done), by repeat (first | exact Drawn0.refl _ | apply Drawn0.step)⟩
        · replace c5 := Bool.eq_false_iff.mpr c5
          subst c5; have H1 : (if a0 = 7 then (some 8) else (if a0 = 14 then (some 8) else (some 0))) = some r := by rw [if_neg (show ¬ (false = true) by decide)] at H; exact H
          clear H; have H := H1; clear H1
          by_cases c6 : a0 = 7
          · rw [if_pos c6] at H
            have c6b0 := beq_iff_eq.mpr c6; have c6b1 := bne_eq_false_iff_eq.mpr c6; clear c6; obtain rfl := Option.some.inj H
            go_wp2
            go_ret
            exact ⟨by first | rfl | (simp; done) | (simp [*]; done), by repeat (first | exact Drawn0.refl _ | apply Drawn0.step)⟩
          · rw [if_neg c6] at H
            have c6b0 := beq_eq_false_iff_ne.mpr c6; have c6b1 := bne_iff_ne.mpr c6
            by_cases c7 : a0 = 14
            · rw [if_pos c7] at H
              have c7b0 := beq_iff_eq.mpr c7; have c7b1 := bne_eq_false_iff_eq.mpr c7; clear c7; obtain rfl := Option.some.inj H
              go_wp2
              go_ret
              exact ⟨by first | rfl | (simp; done) | (simp [*]; done), by repeat (first | exact Drawn0.refl _ | apply Drawn0.step)⟩
            · rw [if_neg c7] at H
              have c7b0 := beq_eq_false_iff_ne.mpr c7; have c7b1 := bne_iff_ne.mpr c7; obtain rfl := Option.some.inj H
              go_wp2
              go_ret
              exact ⟨by first | rfl | (simp; done) | (simp [*]; done), by repeat (first | exact Drawn0.refl _ | apply Drawn0.step)⟩
def agateref04_Size_s.f (a0 : Int) : Option Int := some (sizeK a0)
theorem agateref04_Size_s.ev (a0 : Int) (r) (h : agateref04_Size_s.f a0 = some r) : ∃ k, agateref04_Size.f k a0 = some r := by
  refine ⟨1, ?_⟩
  rw [← h]
  unfold agateref04_Size_s.f agateref04_Size.f sizeK
  by_cases h1 : a0 = 1
  · rw [if_pos h1, if_pos h1]
  rw [if_neg h1, if_neg h1]
  by_cases h2 : a0 = 2
  · subst h2; rfl
  rw [if_neg h2, if_neg h2]
  simp only [agateref04_Size.j0]
  by_cases h9 : a0 = 9
  · subst h9; rfl
  rw [if_neg (by simpa using h9), if_neg h9]
  by_cases h7 : a0 = 7
  · rw [if_pos h7, if_pos h7]
  rw [if_neg h7, if_neg h7]
  by_cases h14 : a0 = 14
  · rw [if_pos h14, if_pos h14]
  rw [if_neg h14, if_neg h14]
set_option maxHeartbeats 1000000 in
theorem agateref04_Size_s.calls (a0 : Int) (r : Int) (w : World) (h : agateref04_Size_s.f a0 = some r) :
    Calls Tryz.prog 16 #[.int .i64 a0] w fun e w' => e = .returned (.int .i64 r) ∧ Drawn0 w w' := by
  obtain ⟨k, hk⟩ := agateref04_Size_s.ev a0 _ h
  exact agateref04_Size.calls k a0 r w hk
def mayI (c : Bool) (al : List S65) : Nat → Bool
  | 0 => c
  | i + 1 => mayI c al i && (nameR (al.getD i z65).f0 && (idxS ((al.map toA).map (fun x => x.f0)) (al.getD i z65).f0 0 == (i : Int)))
structure PbG (op : ByteArray) (ins : List ByteArray) (out : ByteArray) (al : List S65) (nm : ByteArray) (kd : Int) (dims : List Int) (bN bI : ByteArray) : Prop where
  node : ∃ k, agatelaw10_Node.f k op ins out al = some (op, ins, out, al.map toA)
  info : ∃ k, agatelaw10_Infos.f k [⟨nm, kd, dims⟩] = some [⟨nm, kd, dims⟩]
  putN : ∃ k, pbnode_PutNode.f k op ins out al = some bN
  putI : ∃ k, pbnode_PutInfo.f k nm kd dims = some bI
  refN : ∃ k, agateref11_PutNode.f k op ins out (al.map toA) = some bN
  refI : ∃ k, agateref11_PutInfo.f k nm kd dims = some bI
  awake : ∃ k, agatelaw11_Awake.f k = some true
  len : al.length ≤ 1048576
  names : ∀ a ∈ al, agateref07_Name_s.f a.f0 = some (nameR a.f0)
  find : ∀ x, ∃ k, agateref10_Find.f k (al.map toA) x = some (idxS ((al.map toA).map (fun x => x.f0)) x 0)
  read : mayI (decide (ins.length ≤ 64)) al al.length = true → ∃ al', pbnode_ReadNode.f bN = some (op, ins, out, al', 0) ∧ (∃ k, agatelaw10_Node.f k op ins out al' = some (op, ins, out, al'.map toA)) ∧ ∃ k, agateref10_Nodes.f k op ins out (al'.map toA) op ins out (al.map toA) = some true
  name : agateref07_Name_s.f nm = some (nameR nm)
  size : agateref04_Size_s.f kd = some (sizeK kd)
  readI : nameR nm = true → 0 < sizeK kd → pbnode_ReadInfo.f bI = some (nm, kd, dims, 0) ∧ ∃ k, agatelaw11_same.f k nm kd dims nm kd dims = some true
theorem F_one {α : Type} {d : Kd α} {W : World} {ok : Nat → Prop} {g t : Nat} {x : α} {cs : Array Value} (hb : W.heap[g]? = some (.cells cs t (0, 0))) (hok : ok g) (hs : cs.size = d.sz) (hK : Kd.FK d W ok x cs.toList) : Kd.F d W ok (some ⟨g, 0, none⟩) 1 [x] := fun W' hW => by
  have hb' : W'.heap[g]? = some (.cells cs t (0, 0)) := (hW g hok (blk_lt hb)).trans hb
  refine ⟨rfl, by decide, fun _ => ⟨⟨g, 0, none⟩, rfl, fun j p hj => ?_⟩⟩
  cases j with
  | zero =>
    obtain rfl : x = p := by simpa using hj
    refine ⟨cs.toList, by simpa using hs, hK W' hW, fun i u hi => ?_⟩
    have hi' : cs[i]? = some u := by simpa using hi
    have := blk_cell hb' i
    rw [hi'] at this
    rw [Nat.zero_mul, Nat.zero_add, add_plain]
    exact this
  | succ j => simp at hj
def oN (op : ByteArray) (A1 : Option Addr) (n1 c1 : Nat) (out : ByteArray) (A3 : Option Addr) (n3 c3 : Nat) : Obj := .cells #[.string op, .slice A1 n1 c1, .string out, .slice A3 n3 c3] 25
def oI (nm : ByteArray) (kd : Int) (A5 : Option Addr) (n5 c5 : Nat) : Obj := .cells #[.string nm, .int .i64 kd, .slice A5 n5 c5] 29
structure PbI (w W : World) (op : ByteArray) (A1 : Option Addr) (c1 : Nat) (ins : List ByteArray) (out : ByteArray) (A3 : Option Addr) (c3 : Nat) (al : List S65) (nm : ByteArray) (kd : Int) (A5 : Option Addr) (c5 : Nat) (dims : List Int) : Prop where
  b : Below w.heap.size w W
  b0 : W.heap[w.heap.size]? = some (oN op A1 ins.length c1 out A3 al.length c3)
  b1 : W.heap[w.heap.size + 1]? = some (oI nm kd A5 dims.length c5)
  f1 : Kd.F Kd.string W (fun k => k < w.heap.size) A1 ins.length ins
  f3 : Kd.F k65 W (fun k => k < w.heap.size) A3 al.length al
  f5 : Kd.F (Kd.int .i64) W (fun k => k < w.heap.size) A5 dims.length dims
theorem PbI.step {w W V : World} {op : ByteArray} {A1 : Option Addr} {c1 : Nat} {ins : List ByteArray} {out : ByteArray} {A3 : Option Addr} {c3 : Nat} {al : List S65} {nm : ByteArray} {kd : Int} {A5 : Option Addr} {c5 : Nat} {dims : List Int} (h : PbI w W op A1 c1 ins out A3 c3 al nm kd A5 c5 dims) (hb : Below W.heap.size W V) : PbI w V op A1 c1 ins out A3 c3 al nm kd A5 c5 dims :=
  ⟨below_step h.b hb, blk_below h.b0 hb, blk_below h.b1 hb, F_below h.f1 hb, F_below h.f3 hb, F_below h.f5 hb⟩
theorem PbI.start {w : World} {op : ByteArray} {A1 : Option Addr} {c1 : Nat} {ins : List ByteArray} {out : ByteArray} {A3 : Option Addr} {c3 : Nat} {al : List S65} {nm : ByteArray} {kd : Int} {A5 : Option Addr} {c5 : Nat} {dims : List Int} (f1 : Kd.F Kd.string w (fun k => k < w.heap.size) A1 ins.length ins) (f3 : Kd.F k65 w (fun k => k < w.heap.size) A3 al.length al) (f5 : Kd.F (Kd.int .i64) w (fun k => k < w.heap.size) A5 dims.length dims) :
    PbI w ((w.alloc (oN op A1 ins.length c1 out A3 al.length c3)).alloc (oI nm kd A5 dims.length c5)) op A1 c1 ins out A3 c3 al nm kd A5 c5 dims := by
  have hb : Below w.heap.size w ((w.alloc (oN op A1 ins.length c1 out A3 al.length c3)).alloc (oI nm kd A5 dims.length c5)) := below_alloc (below_alloc (Below.refl _ _) _) _
  refine ⟨hb, blk_alloc (blk_new w _) _, ?_, F_below f1 hb, F_below f3 hb, F_below f5 hb⟩
  have := blk_new (w.alloc (oN op A1 ins.length c1 out A3 al.length c3)) (oI nm kd A5 dims.length c5)
  rw [alloc_size] at this
  exact this
theorem pbSmall {w W : World} {op : ByteArray} {A1 : Option Addr} {c1 : Nat} {ins : List ByteArray} {out : ByteArray} {A3 : Option Addr} {c3 : Nat} {al : List S65} {nm : ByteArray} {kd : Int} {A5 : Option Addr} {c5 : Nat} {dims : List Int} {g : Nat} {r : Bool} (h1 : ins.length ≤ c1) (h3 : al.length ≤ c3) (h5 : dims.length ≤ c5)
    (h : PbI w W op A1 c1 ins out A3 c3 al nm kd A5 c5 dims) (hg : W.heap.size = g) (hs : agatelaw10_Small.f 0 [⟨nm, kd, dims⟩] [] [] [⟨op, ins, out, al⟩] = some r) :
    Calls Tryz.prog 4 #[.agg #[.int .i64 0, .slice (some ⟨g, 0, none⟩) 1 1, .slice none 0 0, .slice none 0 0, .slice (some ⟨g + 1, 0, none⟩) 1 1]] ((W.alloc (oI nm kd A5 dims.length c5)).alloc (oN op A1 ins.length c1 out A3 al.length c3)) fun e w' => e = .returned (.bool r) ∧ PbI w w' op A1 c1 ins out A3 c3 al nm kd A5 c5 dims := by
  subst hg
  have hW : Below W.heap.size W ((W.alloc (oI nm kd A5 dims.length c5)).alloc (oN op A1 ins.length c1 out A3 al.length c3)) := below_alloc (below_alloc (Below.refl _ _) _) _
  have hI := h.step hW
  have b2 : ((W.alloc (oI nm kd A5 dims.length c5)).alloc (oN op A1 ins.length c1 out A3 al.length c3)).heap[W.heap.size]? = some (oI nm kd A5 dims.length c5) := blk_alloc (blk_new W _) _
  have b3 : ((W.alloc (oI nm kd A5 dims.length c5)).alloc (oN op A1 ins.length c1 out A3 al.length c3)).heap[W.heap.size + 1]? = some (oN op A1 ins.length c1 out A3 al.length c3) := by
    have := blk_new (W.alloc (oI nm kd A5 dims.length c5)) (oN op A1 ins.length c1 out A3 al.length c3)
    rw [alloc_size] at this
    exact this
  generalize ((W.alloc (oI nm kd A5 dims.length c5)).alloc (oN op A1 ins.length c1 out A3 al.length c3)) = V at hI b2 b3 ⊢
  have k2 := F_one (d := k29) (ok := fun _ => True) (x := ⟨nm, kd, dims⟩) b2 trivial rfl (k29_mkF V _ ⟨nm, kd, dims⟩ h5 (Kd.F_mono hI.f5 (fun _ _ => trivial)))
  have k3 := F_one (d := k25) (ok := fun _ => True) (x := ⟨op, ins, out, al⟩) b3 trivial rfl (k25_mkF V _ ⟨op, ins, out, al⟩ h1 (Kd.F_mono hI.f1 (fun _ _ => trivial)) h3 (Kd.F_mono hI.f3 (fun _ _ => trivial)))
  refine (agatelaw10_Small.calls 0 (some ⟨W.heap.size, 0, none⟩) 1 [⟨nm, kd, dims⟩] none 0 [] none 0 [] (some ⟨W.heap.size + 1, 0, none⟩) 1 [⟨op, ins, out, al⟩] r V (Kd.F_now k2) (Nat.le_refl _) (Kd.C_nil _ _) (Nat.le_refl _) (Kd.C_nil _ _) (Nat.le_refl _) (Kd.F_now k3) (Nat.le_refl _) hs).mono ?_
  rintro e w' ⟨he, hb⟩
  exact ⟨he, hI.step hb⟩
set_option maxHeartbeats 4000000 in
set_option maxRecDepth 100000 in
theorem pbLaw.big (op : ByteArray) (A1 : Option Addr) (c1 : Nat) (ins : List ByteArray) (out : ByteArray) (A3 : Option Addr) (c3 : Nat) (al : List S65) (nm : ByteArray) (kd : Int) (A5 : Option Addr) (c5 : Nat) (dims : List Int) (w : World)
    (h1 : ins.length ≤ c1) (f1 : Kd.F Kd.string w (fun k => k < w.heap.size) A1 ins.length ins) (h3 : al.length ≤ c3) (f3 : Kd.F k65 w (fun k => k < w.heap.size) A3 al.length al) (h5 : dims.length ≤ c5) (f5 : Kd.F (Kd.int .i64) w (fun k => k < w.heap.size) A5 dims.length dims)
    (hs : agatelaw10_Small.f 0 [⟨nm, kd, dims⟩] [] [] [⟨op, ins, out, al⟩] = some false) (ha : ∃ k, agatelaw11_Awake.f k = some true) :
    Calls Tryz.prog 3 #[.agg #[.string op, .slice A1 ins.length c1, .string out, .slice A3 al.length c3], .agg #[.string nm, .int .i64 kd, .slice A5 dims.length c5]] w fun en w' => en = .returned (.bool true) ∧ Below w.heap.size w w' := by
  have hu := Tryz.underlying25
  have hu2 := Tryz.underlying29
  have hu3 := Tryz.underlying35
  have HS := Aside0.mk hs
  have HA := Aside0.mk ha
  have HI0 := Aside0.mk (PbI.start (op := op) (c1 := c1) (out := out) (c3 := c3) (nm := nm) (kd := kd) (c5 := c5) f1 f3 f5)
  have hz : ((w.alloc (oN op A1 ins.length c1 out A3 al.length c3)).alloc (oI nm kd A5 dims.length c5)).heap.size = w.heap.size + 1 + 1 := by rw [alloc_size, alloc_size]
  have HZ := Aside0.mk hz
  have H1 := Aside0.mk h1
  have H3 := Aside0.mk h3
  have H5 := Aside0.mk h5
  clear hs ha hz f1 f3 f5 h1 h3 h5
  go_enter Tryz.func3, Tryz.ntmps3
  go_wp2_with (first | (fail))
  refine (pbSmall H1.out H3.out H5.out HI0.out HZ.out HS.out).mono ?_
  rintro en w1 ⟨rfl, hI⟩
  have HI := Aside0.mk hI
  clear hI HI0 HZ HS
  obtain ⟨k, hk⟩ := HA.out
  have HK := Aside0.mk hk
  clear HA hk
  go_wp2_with (first | (fail))
  refine (agatelaw11_Awake.calls k true w1 HK.out).mono ?_
  rintro en w2 ⟨rfl, hB⟩
  have HB := Aside0.mk (below_step HI.out.b hB)
  clear HI hB
  go_wp2_with (first | (fail))
  go_ret
  exact ⟨rfl, HB.out⟩
theorem sumSt_eq : ∀ (l : List ByteArray) (n : Nat), n + (l.map (fun x => x.size + 1)).sum ≤ 4611686018427387904 → sumSt (n : Int) l = ((n + (l.map (fun x => x.size + 1)).sum : Nat) : Int)
  | [], n, _ => rfl
  | x :: l, n, h => by
    rw [List.map_cons, List.sum_cons] at h ⊢
    have e : stepS (n : Int) x = ((n + (x.size + 1) : Nat) : Int) := by
      unfold stepS
      rw [wrap64_id (x := 1 + (x.size : Int)) (by omega) (by omega), wrap64_id (by omega) (by omega)]; omega
    show sumSt (stepS (n : Int) x) l = _
    rw [e, sumSt_eq l (n + (x.size + 1)) (by omega)]
    congr 1; omega
theorem sumA_eq : ∀ (l : List S65) (n : Nat), n + (l.map (fun a => a.f0.size + a.f3.length + 1)).sum ≤ 4611686018427387904 → sumA (n : Int) l = ((n + (l.map (fun a => a.f0.size + a.f3.length + 1)).sum : Nat) : Int)
  | [], n, _ => rfl
  | x :: l, n, h => by
    rw [List.map_cons, List.sum_cons] at h ⊢
    have e : stepA (n : Int) x = ((n + (x.f0.size + x.f3.length + 1) : Nat) : Int) := by
      unfold stepA
      rw [wrap64_id (x := 1 + (x.f0.size : Int)) (by omega) (by omega), wrap64_id (x := 1 + (x.f0.size : Int) + (x.f3.length : Int)) (by omega) (by omega), wrap64_id (by omega) (by omega)]; omega
    show sumA (stepA (n : Int) x) l = _
    rw [e, sumA_eq l (n + (x.f0.size + x.f3.length + 1)) (by omega)]
    congr 1; omega
def sumN (op : ByteArray) (ins : List ByteArray) (out : ByteArray) (al : List S65) (nm : ByteArray) (dims : List Int) : Nat := 1 + nm.size + dims.length + (1 + op.size + out.size) + (ins.map (fun x => x.size + 1)).sum + (al.map (fun a => a.f0.size + a.f3.length + 1)).sum
theorem stepI_eq (x : S29) (h : x.f0.size + x.f2.length ≤ 4611686018427387904) : stepI 0 x = ((1 + x.f0.size + x.f2.length : Nat) : Int) := by
  unfold stepI
  rw [wrap64_id (x := 1 + (x.f0.size : Int)) (by omega) (by omega), wrap64_id (x := 1 + (x.f0.size : Int) + (x.f2.length : Int)) (by omega) (by omega), wrap64_id (by omega) (by omega)]; omega
theorem stepD_eq (x : S25) (n : Nat) (h : n + (1 + x.f0.size + x.f2.size) + (x.f1.map (fun x => x.size + 1)).sum + (x.f3.map (fun a => a.f0.size + a.f3.length + 1)).sum ≤ 4611686018427387904) : stepD (n : Int) x = ((n + (1 + x.f0.size + x.f2.size) + (x.f1.map (fun x => x.size + 1)).sum + (x.f3.map (fun a => a.f0.size + a.f3.length + 1)).sum : Nat) : Int) := by
  unfold stepD
  rw [wrap64_id (x := 1 + (x.f0.size : Int)) (by omega) (by omega), wrap64_id (x := 1 + (x.f0.size : Int) + (x.f2.size : Int)) (by omega) (by omega), wrap64_id (by omega) (by omega)]
  have e : (n : Int) + (1 + (x.f0.size : Int) + (x.f2.size : Int)) = ((n + (1 + x.f0.size + x.f2.size) : Nat) : Int) := by omega
  rw [e, sumSt_eq x.f1 _ (by omega), sumA_eq x.f3 _ (by omega)]
theorem sumI_one (n : Int) (i : S29) : sumI n [i] = stepI n i := by unfold sumI; rw [List.foldl_cons, List.foldl_nil]
theorem sumI_nil (n : Int) : sumI n [] = n := by unfold sumI; rw [List.foldl_nil]
theorem sumT_nil (n : Int) : sumT n [] = n := by unfold sumT; rw [List.foldl_nil]
theorem sumD_one (n : Int) (d : S25) : sumD n [d] = stepD n d := by unfold sumD; rw [List.foldl_cons, List.foldl_nil]
theorem smallN_one (i : S29) (d : S25) : smallN [i] [] [] [d] = stepD (stepI 0 i) d := by
  unfold smallN
  rw [sumI_one, sumI_nil, sumT_nil, sumD_one]
theorem small_eq (op : ByteArray) (ins : List ByteArray) (out : ByteArray) (al : List S65) (nm : ByteArray) (kd : Int) (dims : List Int) (h : sumN op ins out al nm dims ≤ 4611686018427387904) :
    smallN [⟨nm, kd, dims⟩] [] [] [⟨op, ins, out, al⟩] = (sumN op ins out al nm dims : Int) := by
  unfold sumN at h ⊢
  generalize hS : (ins.map (fun x => x.size + 1)).sum = S at h ⊢
  generalize hA : (al.map (fun a => a.f0.size + a.f3.length + 1)).sum = A at h ⊢
  have h1 : stepI 0 (⟨nm, kd, dims⟩ : S29) = ((1 + nm.size + dims.length : Nat) : Int) := stepI_eq ⟨nm, kd, dims⟩ (show nm.size + dims.length ≤ 4611686018427387904 by omega)
  have hh : (1 + nm.size + dims.length) + (1 + op.size + out.size) + (ins.map (fun x => x.size + 1)).sum + (al.map (fun a => a.f0.size + a.f3.length + 1)).sum ≤ 4611686018427387904 := by rw [hS, hA]; exact h
  have h2 := stepD_eq ⟨op, ins, out, al⟩ (1 + nm.size + dims.length) hh
  rw [smallN_one, h1, h2]
  show ((1 + nm.size + dims.length + (1 + op.size + out.size) + (ins.map (fun x => x.size + 1)).sum + (al.map (fun a => a.f0.size + a.f3.length + 1)).sum : Nat) : Int) = _
  rw [hS, hA]
theorem le_sum {α : Type} (f : α → Nat) : ∀ (l : List α) (x : α), x ∈ l → f x ≤ (l.map f).sum
  | y :: l, x, h => by
    rw [List.map_cons, List.sum_cons]
    rcases List.mem_cons.1 h with rfl | h
    · omega
    · have := le_sum f l x h; omega
theorem len_sum {α : Type} (f : α → Nat) (h : ∀ x, 1 ≤ f x) : ∀ (l : List α), l.length ≤ (l.map f).sum
  | [] => Nat.le_refl _
  | y :: l => by
    rw [List.map_cons, List.sum_cons, List.length_cons]
    have := len_sum f h l; have := h y; omega
theorem sum_mul {α : Type} (f g : α → Nat) (c : Nat) (h : ∀ x, f x ≤ c * g x) : ∀ (l : List α), (l.map f).sum ≤ c * (l.map g).sum
  | [] => Nat.zero_le _
  | y :: l => by
    rw [List.map_cons, List.map_cons, List.sum_cons, List.sum_cons, Nat.mul_add]
    have := sum_mul f g c h l; have := h y; omega
theorem idxS_not : ∀ (l : List ByteArray) (x : ByteArray) (k j : Nat), idxS l x k = ((k + j : Nat) : Int) → x ∉ l.take j
  | [], _, _, _, _ => by simp
  | y :: l, x, k, j, h => by
    unfold idxS at h
    by_cases e : y = x
    · rw [if_pos e] at h
      have : j = 0 := by omega
      rw [this]; simp
    · rw [if_neg e] at h
      cases j with
      | zero => simp
      | succ j =>
        have := idxS_not l x (k + 1) j (by rw [h]; omega)
        rw [List.take_succ_cons]
        intro hm
        rcases List.mem_cons.1 hm with e2 | e2
        · exact e e2.symm
        · exact this e2
theorem mayI_all (c : Bool) (al : List S65) : ∀ (n : Nat), mayI c al n = true → c = true ∧ ∀ i, i < n → nameR (al.getD i z65).f0 = true ∧ idxS ((al.map toA).map (fun x => x.f0)) (al.getD i z65).f0 0 = (i : Int)
  | 0, h => ⟨h, fun i hi => by omega⟩
  | n + 1, h => by
    rw [mayI, Bool.and_eq_true, Bool.and_eq_true, beq_iff_eq] at h
    obtain ⟨h0, h1, h2⟩ := h
    obtain ⟨k0, k1⟩ := mayI_all c al n h0
    refine ⟨k0, fun i hi => ?_⟩
    by_cases e : i = n
    · subst e; exact ⟨h1, h2⟩
    · exact k1 i (by omega)
theorem pbG (op : ByteArray) (ins : List ByteArray) (out : ByteArray) (al : List S65) (nm : ByteArray) (kd : Int) (dims : List Int) (h : sumN op ins out al nm dims ≤ 6000) (hal : ∀ a ∈ al, inRc a.f2 ∧ ∀ x ∈ a.f3, inRc x) (hd : ∀ x ∈ dims, inRc x)
    (haw : ∃ k, agatelaw11_Awake.f k = some true) : PbG op ins out al nm kd dims (laidF (fieldsN op ins out al)) (laidF (fieldsI nm kd dims)) := by
  unfold sumN at h
  have l1 := len_sum (fun x : ByteArray => x.size + 1) (fun x => by omega) ins
  have l2 := len_sum (fun a : S65 => a.f0.size + a.f3.length + 1) (fun x => by omega) al
  have m1 : ∀ x ∈ ins, x.size ≤ 6000 := fun x hx => by have := le_sum (fun x : ByteArray => x.size + 1) ins x hx; omega
  have m2 : ∀ a ∈ al, a.f0.size ≤ 6000 ∧ a.f3.length ≤ 6000 := fun a ha => by have := le_sum (fun a : S65 => a.f0.size + a.f3.length + 1) al a ha; omega
  have sm : NodeSmall op ins out al := ⟨by omega, fun a ha => by have := m2 a ha; omega, by omega, fun x hx => by have := m1 x hx; omega, by omega, by omega⟩
  have sz : (laidF (fieldsN op ins out al)).size ≤ 1048576 := by
    have s1 := node_size op ins out al (by omega) (by omega) m1 m2
    have s2 := sum_mul (fun x : ByteArray => 20 + x.size) (fun x => x.size + 1) 20 (fun x => by omega) ins
    have s3 := sum_mul (fun a : S65 => 80 + a.f0.size + 10 * a.f3.length) (fun a => a.f0.size + a.f3.length + 1) 80 (fun x => by omega) al
    omega
  refine ⟨⟨al.length + 1, node_f al (by omega) op ins out _ (by omega)⟩, ?_, ⟨_, putNode_f sm _ (Nat.lt_succ_self _)⟩, ⟨_, putInfo_f nm kd dims (by omega) (by omega) _ (Nat.lt_succ_self _)⟩, ⟨_, refNode_f sm _ (Nat.lt_succ_self _)⟩, ⟨_, refInfo_f nm kd dims (by omega) (by omega) _ (Nat.lt_succ_self _)⟩, haw, by omega, ?_, ?_, ?_, ?_, rfl, ?_⟩
  · exact ⟨2, infos_f [⟨nm, kd, dims⟩] (show (1 : Nat) < 2932031007402 by decide) 2 (show (1 : Nat) < 2 by decide)⟩
  · intro a ha
    unfold agateref07_Name_s.f
    rw [if_pos (by have := m2 a ha; omega)]
  · intro x
    exact ⟨al.length + 1, find_f (al.map toA) (by rw [List.length_map]; omega) x _ (by rw [List.length_map]; omega)⟩
  · intro hm
    obtain ⟨hc, hi⟩ := mayI_all _ _ _ hm
    have may : MayN op ins out al := by
      refine ⟨sm, of_decide_eq_true hc, fun a ha => ?_, fun j hj => ?_, sz, by omega⟩
      · obtain ⟨i, hi2, rfl⟩ := List.getElem_of_mem ha
        have := (hi i hi2).1
        rw [show al.getD i z65 = al[i] by simp [hi2]] at this
        exact ⟨this, (hal _ ha).1, (hal _ ha).2, (m2 _ ha).1, (m2 _ ha).2⟩
      · have := (hi j hj).2
        rw [show al.getD j z65 = al[j] by simp [hj]] at this
        have h2 := idxS_not _ _ 0 j (by rw [this]; omega)
        rw [List.map_map] at h2
        exact h2
    exact ⟨al.map nrmA, readNode_f may, ⟨al.length + 1, node_f (al.map nrmA) (by rw [List.length_map]; omega) op ins out _ (by rw [List.length_map]; omega)⟩, nodes_back op ins out al (by omega) (by omega) (fun a ha => by have := m2 a ha; omega)⟩
  · unfold agateref07_Name_s.f
    rw [if_pos (by omega)]
  · intro hn hk
    exact ⟨readInfo_f nm kd dims hn (by omega) hk hd (by omega), same11_f nm kd dims (by omega)⟩
theorem pbAwake10 : agatelaw10_Awake.f = some true := by decide +kernel
theorem pbAwakeN : NodeSmall ⟨#[78, 101, 103]⟩ [⟨#[120]⟩] ⟨#[121]⟩ [] := ⟨by decide, fun a ha => by simp at ha, by decide, fun x hx => by rw [List.mem_singleton.1 hx]; decide, by decide, by decide⟩
theorem pbAwakeB : (laidF (fieldsN ⟨#[78, 101, 103]⟩ [⟨#[120]⟩] ⟨#[121]⟩ [])).toList = ([10, 1, 120, 18, 1, 121, 34, 3, 78, 101, 103] : List UInt8) := by decide +kernel
theorem pbAwakeF : ∃ k, agatelaw11_Awake.f k = some true := by
  refine ⟨3, ?_⟩
  unfold agatelaw11_Awake.f
  rw [show agatelaw03_Awake_s.f = some true from rfl, Option.bind_some, if_pos rfl, pbAwake10, Option.bind_some, if_pos rfl, putNode_f pbAwakeN 3 (show (0 : Nat) + 1 + 1 < 3 by decide), Option.bind_some, pbAwakeB]
  rfl
end Go.Proofs.YthidedmnmdlfkaaGreat.X
namespace Go.Proofs.YthidedmnmdlfkaaGreat.X
open Go.RowKit Go.Proofs.YthidedmnmdlfkaaGreatW.PrintWords Go.Proofs.YthidedmnmdlfkaaGreatW.PrintLast Go.Proofs.YthidedmnmdlfkaaGreatW.PrintMore
attribute [local go_sem] max2_int min2_int max_two min_two max_three min_three max_four min_four
set_option linter.unusedVariables false
set_option linter.unusedSimpArgs false
def ok3 (b : Nat → Bool) (g7 g8 : Nat) (k : Nat) : Prop := (b 7 = true → k ≠ g7) ∧ (b 8 = true → k ≠ g8)
theorem But_base {w W V : World} {g : Nat} (h : Below w.heap.size w W) (hg : w.heap.size ≤ g) (hb : But g W V) : Below w.heap.size w V :=
  ⟨hb.os.trans h.os, hb.tape.trans h.tape, hb.output.trans h.output, Nat.le_trans h.size hb.size, fun i hi => (hb.block i (Nat.lt_of_lt_of_le hi h.size) (by omega)).trans (h.block i hi)⟩
theorem PbI.set {w W V : World} {op : ByteArray} {A1 : Option Addr} {c1 : Nat} {ins : List ByteArray} {out : ByteArray} {A3 : Option Addr} {c3 : Nat} {al : List S65} {nm : ByteArray} {kd : Int} {A5 : Option Addr} {c5 : Nat} {dims : List Int} {g : Nat} (h : PbI w W op A1 c1 ins out A3 c3 al nm kd A5 c5 dims) (hg : w.heap.size + 1 < g) (hb : But g W V) : PbI w V op A1 c1 ins out A3 c3 al nm kd A5 c5 dims :=
  ⟨But_base h.b (by omega) hb, hb.keep h.b0 (by omega), hb.keep h.b1 (by omega), F_but h.f1 hb (fun k hk => by omega), F_but h.f3 hb (fun k hk => by omega), F_but h.f5 hb (fun k hk => by omega)⟩
structure R3 (b : Nat → Bool) (w W : World) (op : ByteArray) (A1 : Option Addr) (c1 : Nat) (ins : List ByteArray) (out : ByteArray) (A3 : Option Addr) (c3 : Nat) (al : List S65) (nm : ByteArray) (kd : Int) (A5 : Option Addr) (c5 : Nat) (dims : List Int)
    (p1 : Option Addr) (q1 : Nat) (p3 : Option Addr) (q3 g3 g4 : Nat) (p5 : Option Addr) (q5 g7 g8 : Nat) : Prop where
  i : PbI w W op A1 c1 ins out A3 c3 al nm kd A5 c5 dims
  r1 : b 1 = true → ins.length ≤ q1 ∧ al.length ≤ q3 ∧ Kd.F Kd.string W (ok3 b g7 g8) p1 ins.length ins ∧ Kd.F k50 W (ok3 b g7 g8) p3 al.length (al.map toA)
  r3 : b 3 = true → b 4 = false → W.heap[g3]? = some (oI nm kd A5 dims.length c5)
  r4 : b 4 = true → dims.length ≤ q5 ∧ ok3 b g7 g8 g4 ∧ W.cell? ⟨g4, 0, none⟩ = some (.string nm) ∧ W.cell? ⟨g4, 1, none⟩ = some (.int .i64 kd) ∧ W.cell? ⟨g4, 2, none⟩ = some (.slice p5 dims.length q5) ∧ Kd.F (Kd.int .i64) W (ok3 b g7 g8) p5 dims.length dims
  r7 : b 7 = true → w.heap.size + 1 < g7 ∧ W.heap[g7]? = some (.cells (if b 9 = true then #[.string op, .slice p1 ins.length q1, .string out, .slice p3 al.length q3] else #[.string ⟨#[]⟩, .slice none 0 0, .string ⟨#[]⟩, .slice none 0 0]) 39 (0, 0))
  r8 : b 8 = true → w.heap.size + 1 < g8 ∧ W.heap[g8]? = some (.cells (if b 10 = true then #[.string nm, .int .i64 kd, .slice p5 dims.length q5] else #[.string ⟨#[]⟩, .int .i64 0, .slice none 0 0]) 42 (0, 0))
  ne : b 7 = true → b 8 = true → g7 ≠ g8
section
variable {b : Nat → Bool} {w W V : World} {op : ByteArray} {A1 : Option Addr} {c1 : Nat} {ins : List ByteArray} {out : ByteArray} {A3 : Option Addr} {c3 : Nat} {al : List S65} {nm : ByteArray} {kd : Int} {A5 : Option Addr} {c5 : Nat} {dims : List Int}
    {p1 : Option Addr} {q1 : Nat} {p3 : Option Addr} {q3 g3 g4 : Nat} {p5 : Option Addr} {q5 g7 g8 : Nat}
theorem cell_lt {W : World} {g i : Nat} {v : Value} (h : W.cell? ⟨g, i, none⟩ = some v) : g < W.heap.size := by
  rcases Nat.lt_or_ge g W.heap.size with hl | hl
  · exact hl
  · have : W.heap[g]? = none := Array.getElem?_eq_none hl
    simp [World.cell?, this] at h
theorem cell_keep {W V : World} {g i : Nat} {v : Value} (h : W.cell? ⟨g, i, none⟩ = some v) (hv : V.heap[g]? = W.heap[g]?) : V.cell? ⟨g, i, none⟩ = some v := by
  unfold World.cell? at h ⊢
  simp only at h ⊢
  rw [hv]
  exact h
theorem R3.skip (h : R3 b w W op A1 c1 ins out A3 c3 al nm kd A5 c5 dims p1 q1 p3 q3 g3 g4 p5 q5 g7 g8) {i : Nat} (hi : i ≠ 1 ∧ i ≠ 3 ∧ i ≠ 4 ∧ i ≠ 7 ∧ i ≠ 8 ∧ i ≠ 9 ∧ i ≠ 10) : R3 (up b i) w W op A1 c1 ins out A3 c3 al nm kd A5 c5 dims p1 q1 p3 q3 g3 g4 p5 q5 g7 g8 := by
  obtain ⟨h1, h3, h4, h7, h8, h9, h10⟩ := hi
  have e : ok3 (up b i) g7 g8 = ok3 b g7 g8 := by unfold ok3; rw [up_ne h7.symm, up_ne h8.symm]
  refine ⟨h.i, ?_, ?_, ?_, ?_, ?_, ?_⟩
  · rw [up_ne h1.symm, e]; exact h.r1
  · rw [up_ne h3.symm, up_ne h4.symm]; exact h.r3
  · rw [up_ne h4.symm, e]; exact h.r4
  · rw [up_ne h7.symm, up_ne h9.symm]; exact h.r7
  · rw [up_ne h8.symm, up_ne h10.symm]; exact h.r8
  · rw [up_ne h7.symm, up_ne h8.symm]; exact h.ne
theorem R3.step (h : R3 b w W op A1 c1 ins out A3 c3 al nm kd A5 c5 dims p1 q1 p3 q3 g3 g4 p5 q5 g7 g8) (hB : Below W.heap.size W V) : R3 b w V op A1 c1 ins out A3 c3 al nm kd A5 c5 dims p1 q1 p3 q3 g3 g4 p5 q5 g7 g8 := by
  refine ⟨h.i.step hB, fun e => ?_, fun e e2 => blk_below (h.r3 e e2) hB, fun e => ?_, fun e => ⟨(h.r7 e).1, blk_below (h.r7 e).2 hB⟩, fun e => ⟨(h.r8 e).1, blk_below (h.r8 e).2 hB⟩, h.ne⟩
  · obtain ⟨k1, k2, k3, k4⟩ := h.r1 e
    exact ⟨k1, k2, F_below k3 hB, F_below k4 hB⟩
  · obtain ⟨k1, k2, k3, k4, k5, k6⟩ := h.r4 e
    have hv := hB.block g4 (cell_lt k3)
    exact ⟨k1, k2, cell_keep k3 hv, cell_keep k4 hv, cell_keep k5 hv, F_below k6 hB⟩
theorem R3.fresh (h : R3 b w W op A1 c1 ins out A3 c3 al nm kd A5 c5 dims p1 q1 p3 q3 g3 g4 p5 q5 g7 g8) {k : Nat} (hk : k < w.heap.size ∨ W.heap.size ≤ k) : ok3 b g7 g8 k := by
  refine ⟨fun e => ?_, fun e => ?_⟩
  · have := (h.r7 e).1; have := blk_lt (h.r7 e).2; omega
  · have := (h.r8 e).1; have := blk_lt (h.r8 e).2; omega
theorem R3.call1 (h : R3 b w W op A1 c1 ins out A3 c3 al nm kd A5 c5 dims p1 q1 p3 q3 g3 g4 p5 q5 g7 g8) (hB : Below W.heap.size W V) (h9 : b 9 = false) {r1 : Option Addr} {s1 : Nat} {r3 : Option Addr} {s3 : Nat} (k1 : ins.length ≤ s1) (k3 : al.length ≤ s3)
    (f1 : Kd.F Kd.string V (fun k => k < w.heap.size ∨ W.heap.size ≤ k) r1 ins.length ins) (f3 : Kd.F k50 V (fun k => k < w.heap.size ∨ W.heap.size ≤ k) r3 al.length (al.map toA)) :
    R3 (up b 1) w V op A1 c1 ins out A3 c3 al nm kd A5 c5 dims r1 s1 r3 s3 g3 g4 p5 q5 g7 g8 := by
  have hs := h.step hB
  have e : ok3 (up b 1) g7 g8 = ok3 b g7 g8 := rfl
  refine ⟨hs.i, fun _ => ⟨k1, k3, Kd.F_mono f1 (fun k hk => h.fresh hk), Kd.F_mono f3 (fun k hk => h.fresh hk)⟩, hs.r3, hs.r4, fun e7 => ⟨(hs.r7 e7).1, ?_⟩, hs.r8, hs.ne⟩
  have := (hs.r7 e7).2
  rw [h9, if_neg Bool.false_ne_true] at this
  show _ = some (Obj.cells (if b 9 = true then _ else _) _ _)
  rw [h9, if_neg Bool.false_ne_true]
  exact this
theorem R3.made3 (h : R3 b w W op A1 c1 ins out A3 c3 al nm kd A5 c5 dims p1 q1 p3 q3 g3 g4 p5 q5 g7 g8) : R3 (up b 3) w (W.alloc (oI nm kd A5 dims.length c5)) op A1 c1 ins out A3 c3 al nm kd A5 c5 dims p1 q1 p3 q3 W.heap.size g4 p5 q5 g7 g8 := by
  have hs := h.step (below_alloc (Below.refl _ _) (oI nm kd A5 dims.length c5))
  exact ⟨hs.i, hs.r1, fun _ _ => blk_new W _, hs.r4, hs.r7, hs.r8, hs.ne⟩
theorem R3.call4 (h : R3 b w W op A1 c1 ins out A3 c3 al nm kd A5 c5 dims p1 q1 p3 q3 g3 g4 p5 q5 g7 g8) (hB : Below W.heap.size W V) (h3 : b 3 = true) (h4 : b 4 = false) (h10 : b 10 = false) {s4 : Nat} {r5 : Option Addr} {s5 : Nat} (k5 : dims.length ≤ s5) (hg : W.heap.size ≤ s4)
    (x0 : V.cell? ⟨s4, 0, none⟩ = some (.string nm)) (x1 : V.cell? ⟨s4, 1, none⟩ = some (.int .i64 kd)) (x2 : V.cell? ⟨s4, 2, none⟩ = some (.slice r5 dims.length s5))
    (f5 : Kd.F (Kd.int .i64) V (fun k => (k < w.heap.size ∨ k = g3) ∨ W.heap.size ≤ k) r5 dims.length dims) :
    R3 (up b 4) w V op A1 c1 ins out A3 c3 al nm kd A5 c5 dims p1 q1 p3 q3 g3 s4 r5 s5 g7 g8 := by
  have hs := h.step hB
  have n3 : ok3 b g7 g8 g3 := ⟨fun e => blk_ne (h.r3 h3 h4) (h.r7 e).2 (by decide), fun e => blk_ne (h.r3 h3 h4) (h.r8 e).2 (by decide)⟩
  have n5 : ∀ k, (k < w.heap.size ∨ k = g3) ∨ W.heap.size ≤ k → ok3 b g7 g8 k := fun k hk => by
    rcases hk with (hk | rfl) | hk
    · exact h.fresh (.inl hk)
    · exact n3
    · exact h.fresh (.inr hk)
  refine ⟨hs.i, hs.r1, (fun _ e => absurd e (by rw [up_self]; decide)), fun _ => ⟨k5, h.fresh (.inr hg), x0, x1, x2, Kd.F_mono f5 n5⟩, hs.r7, fun e8 => ⟨(hs.r8 e8).1, ?_⟩, hs.ne⟩
  have := (hs.r8 e8).2
  rw [h10, if_neg Bool.false_ne_true] at this
  show _ = some (Obj.cells (if b 10 = true then _ else _) _ _)
  rw [h10, if_neg Bool.false_ne_true]
  exact this
theorem R3.start (h : PbI w W op A1 c1 ins out A3 c3 al nm kd A5 c5 dims) : R3 (fun _ => false) w W op A1 c1 ins out A3 c3 al nm kd A5 c5 dims p1 q1 p3 q3 g3 g4 p5 q5 g7 g8 :=
  ⟨h, fun e => Bool.noConfusion e, fun e => Bool.noConfusion e, fun e => Bool.noConfusion e, fun e => Bool.noConfusion e, fun e => Bool.noConfusion e, fun e => Bool.noConfusion e⟩
theorem R3.made7 (h : R3 b w W op A1 c1 ins out A3 c3 al nm kd A5 c5 dims p1 q1 p3 q3 g3 g4 p5 q5 g7 g8) (h7 : b 7 = false) (h9 : b 9 = false) : R3 (up b 7) w (W.alloc (.cells #[.string ⟨#[]⟩, .slice none 0 0, .string ⟨#[]⟩, .slice none 0 0] 39)) op A1 c1 ins out A3 c3 al nm kd A5 c5 dims p1 q1 p3 q3 g3 g4 p5 q5 W.heap.size g8 := by
  have hs := h.step (below_alloc (Below.refl _ _) (.cells #[.string ⟨#[]⟩, .slice none 0 0, .string ⟨#[]⟩, .slice none 0 0] 39))
  have hw := blk_lt h.i.b1
  have hok : ∀ k, ok3 b g7 g8 k ∧ k < W.heap.size → ok3 (up b 7) W.heap.size g8 k := fun k hk => ⟨fun _ => by omega, hk.1.2⟩
  refine ⟨hs.i, fun e => ?_, hs.r3, fun e => ?_, fun _ => ⟨hw, ?_⟩, hs.r8, fun _ e8 => ?_⟩
  · obtain ⟨k1, k2, k3, k4⟩ := h.r1 e
    exact ⟨k1, k2, Kd.F_mono (F_below (Kd.F_bound k3) (below_alloc (Below.refl _ _) _)) hok, Kd.F_mono (F_below (Kd.F_bound k4) (below_alloc (Below.refl _ _) _)) hok⟩
  · obtain ⟨k1, k2, k3, k4, k5, k6⟩ := hs.r4 e
    exact ⟨k1, hok _ ⟨k2, cell_lt (h.r4 e).2.2.1⟩, k3, k4, k5, Kd.F_mono (F_below (Kd.F_bound (h.r4 e).2.2.2.2.2) (below_alloc (Below.refl _ _) _)) hok⟩
  · show _ = some (Obj.cells (if b 9 = true then _ else _) _ _)
    rw [h9, if_neg Bool.false_ne_true]
    exact blk_new W _
  · have := blk_lt (h.r8 e8).2; omega
theorem R3.made8 (h : R3 b w W op A1 c1 ins out A3 c3 al nm kd A5 c5 dims p1 q1 p3 q3 g3 g4 p5 q5 g7 g8) (h8 : b 8 = false) (h10 : b 10 = false) : R3 (up b 8) w (W.alloc (.cells #[.string ⟨#[]⟩, .int .i64 0, .slice none 0 0] 42)) op A1 c1 ins out A3 c3 al nm kd A5 c5 dims p1 q1 p3 q3 g3 g4 p5 q5 g7 W.heap.size := by
  have hs := h.step (below_alloc (Below.refl _ _) (.cells #[.string ⟨#[]⟩, .int .i64 0, .slice none 0 0] 42))
  have hw := blk_lt h.i.b1
  have hok : ∀ k, ok3 b g7 g8 k ∧ k < W.heap.size → ok3 (up b 8) g7 W.heap.size k := fun k hk => ⟨hk.1.1, fun _ => by omega⟩
  refine ⟨hs.i, fun e => ?_, hs.r3, fun e => ?_, hs.r7, fun _ => ⟨hw, ?_⟩, fun e7 _ => ?_⟩
  · obtain ⟨k1, k2, k3, k4⟩ := h.r1 e
    exact ⟨k1, k2, Kd.F_mono (F_below (Kd.F_bound k3) (below_alloc (Below.refl _ _) _)) hok, Kd.F_mono (F_below (Kd.F_bound k4) (below_alloc (Below.refl _ _) _)) hok⟩
  · obtain ⟨k1, k2, k3, k4, k5, k6⟩ := hs.r4 e
    exact ⟨k1, hok _ ⟨k2, cell_lt (h.r4 e).2.2.1⟩, k3, k4, k5, Kd.F_mono (F_below (Kd.F_bound (h.r4 e).2.2.2.2.2) (below_alloc (Below.refl _ _) _)) hok⟩
  · show _ = some (Obj.cells (if b 10 = true then _ else _) _ _)
    rw [h10, if_neg Bool.false_ne_true]
    exact blk_new W _
  · have := blk_lt (h.r7 e7).2; omega
theorem R3.put9 (h : R3 b w W op A1 c1 ins out A3 c3 al nm kd A5 c5 dims p1 q1 p3 q3 g3 g4 p5 q5 g7 g8) (h4 : b 4 = true) (h7 : b 7 = true) (hB : But g7 W V) (hv : V.heap[g7]? = some (.cells #[.string op, .slice p1 ins.length q1, .string out, .slice p3 al.length q3] 39 (0, 0))) :
    R3 (up b 9) w V op A1 c1 ins out A3 c3 al nm kd A5 c5 dims p1 q1 p3 q3 g3 g4 p5 q5 g7 g8 := by
  refine ⟨h.i.set (h.r7 h7).1 hB, fun e => ?_, fun _ e => ?_, fun e => ?_, fun _ => ⟨(h.r7 h7).1, hv⟩, fun e8 => ⟨(h.r8 e8).1, hB.keep (h.r8 e8).2 (h.ne h7 e8).symm⟩, h.ne⟩
  · obtain ⟨k1, k2, k3, k4⟩ := h.r1 e
    exact ⟨k1, k2, F_but k3 hB (fun k hk => hk.1 h7), F_but k4 hB (fun k hk => hk.1 h7)⟩
  · exact absurd (show b 4 = false from e) (by rw [h4]; decide)
  · obtain ⟨k1, k2, k3, k4, k5, k6⟩ := h.r4 e
    have hk := hB.block g4 (cell_lt k3) (k2.1 h7)
    exact ⟨k1, k2, cell_keep k3 hk, cell_keep k4 hk, cell_keep k5 hk, F_but k6 hB (fun k hk => hk.1 h7)⟩
theorem R3.put10 (h : R3 b w W op A1 c1 ins out A3 c3 al nm kd A5 c5 dims p1 q1 p3 q3 g3 g4 p5 q5 g7 g8) (h4 : b 4 = true) (h8 : b 8 = true) (hB : But g8 W V) (hv : V.heap[g8]? = some (.cells #[.string nm, .int .i64 kd, .slice p5 dims.length q5] 42 (0, 0))) :
    R3 (up b 10) w V op A1 c1 ins out A3 c3 al nm kd A5 c5 dims p1 q1 p3 q3 g3 g4 p5 q5 g7 g8 := by
  refine ⟨h.i.set (h.r8 h8).1 hB, fun e => ?_, fun _ e => ?_, fun e => ?_, fun e7 => ⟨(h.r7 e7).1, hB.keep (h.r7 e7).2 (h.ne e7 h8)⟩, fun _ => ⟨(h.r8 h8).1, hv⟩, h.ne⟩
  · obtain ⟨k1, k2, k3, k4⟩ := h.r1 e
    exact ⟨k1, k2, F_but k3 hB (fun k hk => hk.2 h8), F_but k4 hB (fun k hk => hk.2 h8)⟩
  · exact absurd (show b 4 = false from e) (by rw [h4]; decide)
  · obtain ⟨k1, k2, k3, k4, k5, k6⟩ := h.r4 e
    have hk := hB.block g4 (cell_lt k3) (k2.2 h8)
    exact ⟨k1, k2, cell_keep k3 hk, cell_keep k4 hk, cell_keep k5 hk, F_but k6 hB (fun k hk => hk.2 h8)⟩
end
structure PbQ (w W : World) (op : ByteArray) (A1 : Option Addr) (c1 : Nat) (ins : List ByteArray) (out : ByteArray) (A3 : Option Addr) (c3 : Nat) (al : List S65) (nm : ByteArray) (kd : Int) (A5 : Option Addr) (c5 : Nat) (dims : List Int)
    (p1 : Option Addr) (q1 : Nat) (p3 : Option Addr) (q3 : Nat) (p5 : Option Addr) (q5 g7 g8 : Nat) : Prop where
  i : PbI w W op A1 c1 ins out A3 c3 al nm kd A5 c5 dims
  k1 : ins.length ≤ q1
  k3 : al.length ≤ q3
  k5 : dims.length ≤ q5
  f1 : Kd.F Kd.string W (fun _ => True) p1 ins.length ins
  f3 : Kd.F k50 W (fun _ => True) p3 al.length (al.map toA)
  f5 : Kd.F (Kd.int .i64) W (fun _ => True) p5 dims.length dims
  b7 : W.heap[g7]? = some (.cells #[.string op, .slice p1 ins.length q1, .string out, .slice p3 al.length q3] 39 (0, 0))
  b8 : W.heap[g8]? = some (.cells #[.string nm, .int .i64 kd, .slice p5 dims.length q5] 42 (0, 0))
section
variable {b : Nat → Bool} {w W V : World} {op : ByteArray} {A1 : Option Addr} {c1 : Nat} {ins : List ByteArray} {out : ByteArray} {A3 : Option Addr} {c3 : Nat} {al : List S65} {nm : ByteArray} {kd : Int} {A5 : Option Addr} {c5 : Nat} {dims : List Int}
    {p1 : Option Addr} {q1 : Nat} {p3 : Option Addr} {q3 g3 g4 : Nat} {p5 : Option Addr} {q5 g7 g8 : Nat}
theorem R3.done (h : R3 b w W op A1 c1 ins out A3 c3 al nm kd A5 c5 dims p1 q1 p3 q3 g3 g4 p5 q5 g7 g8) (h1 : b 1 = true) (h4 : b 4 = true) (h7 : b 7 = true) (h8 : b 8 = true) (h9 : b 9 = true) (h10 : b 10 = true) : PbQ w W op A1 c1 ins out A3 c3 al nm kd A5 c5 dims p1 q1 p3 q3 p5 q5 g7 g8 := by
  obtain ⟨k1, k3, f1, f3⟩ := h.r1 h1
  obtain ⟨k5, _, _, _, _, f5⟩ := h.r4 h4
  have b7 := (h.r7 h7).2
  have b8 := (h.r8 h8).2
  rw [h9, if_pos rfl] at b7
  rw [h10, if_pos rfl] at b8
  exact ⟨h.i, k1, k3, k5, Kd.F_mono f1 (fun _ _ => trivial), Kd.F_mono f3 (fun _ _ => trivial), Kd.F_mono f5 (fun _ _ => trivial), b7, b8⟩
theorem PbQ.step (h : PbQ w W op A1 c1 ins out A3 c3 al nm kd A5 c5 dims p1 q1 p3 q3 p5 q5 g7 g8) (hB : Below W.heap.size W V) : PbQ w V op A1 c1 ins out A3 c3 al nm kd A5 c5 dims p1 q1 p3 q3 p5 q5 g7 g8 :=
  ⟨h.i.step hB, h.k1, h.k3, h.k5, F_below h.f1 hB, F_below h.f3 hB, F_below h.f5 hB, blk_below h.b7 hB, blk_below h.b8 hB⟩
end
end Go.Proofs.YthidedmnmdlfkaaGreat.X
