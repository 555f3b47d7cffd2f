import Derived.Test.YtgmggompdidcoaaGreatDoorMPbtensorWrites2
import Derived.Test.YtgmggompdidcoaaGreatDoorMPbtensorWrites12
import Derived.Test.YtgmggompdidcoaaGreatDoorMPbtensorWrites4
import Derived.Test.YtgmggompdidcoaaGreatDoorMPbtensorWrites3
import Derived.Test.YtgmggompdidcoaaGreatDoorMPbtensorWrites11
namespace Go.Proofs.YtgmggompdidcoaaGreatDoor.X
open Go.RowKit Go.Proofs.YtgmggompdidcoaaGreatDoorW.PrintWords Go.Proofs.YtgmggompdidcoaaGreatDoorW.PrintLast Go.Proofs.YtgmggompdidcoaaGreatDoorW.PrintMore
attribute [local go_sem] max2_int min2_int max_two min_two max_three min_three max_four min_four
set_option linter.unusedVariables false
set_option linter.unusedSimpArgs false
theorem rdP (l : List (S95)) (i : Nat) (h : i < l.length) : rd_T95 l (i : Int) = l[i] := by
  simp [rd_T95, List.getD_eq_getElem?_getD, h]
def pack_Ints_s.f (l0 : List (S95)) (a1 : Int) : Option (List Int × Int) := if l0.length ≤ 3518437208883 ∧ ∀ x ∈ l0, x.f3.size ≤ 140737488351232 then some ((intsL ((l0.filter fun x => x.f0 == a1).map flP) []).1, ((intsL ((l0.filter fun x => x.f0 == a1).map flP) []).2 : Int)) else none
theorem pack_Ints_eval (l : List (S95)) (hl : l.length ≤ 3518437208883) (hs : ∀ x ∈ l, x.f3.size ≤ 140737488351232) (d : Nat) : ∀ (k i : Nat) (out : List Int), l.length - i = d → i ≤ l.length → out.length ≤ 65536 → d < k →
    pack_Ints.l0 k out l l.length i = some ((intsL ((l.drop i).map flP) out).1, ((intsL ((l.drop i).map flP) out).2 : Int)) := by
  induction d with
  | zero =>
    intro k i out hd hi ho hk
    obtain ⟨k, rfl⟩ : ∃ m, k = m + 1 := ⟨k - 1, by omega⟩
    simp only [pack_Ints.l0]
    rw [if_neg (by omega), List.drop_of_length_le (by omega)]
    rfl
  | succ d ih =>
    intro k i out hd hi ho hk
    obtain ⟨k, rfl⟩ : ∃ m, k = m + 1 := ⟨k - 1, by omega⟩
    have h0 : i < l.length := by omega
    simp only [pack_Ints.l0, rdP l i h0]
    have hsx := hs l[i] (List.getElem_mem _)
    have ew : wrap64 ((i : Int) + 1) = ((i + 1 : Nat) : Int) := by rw [wrap64_id (by omega) (by omega)]; omega
    rw [if_pos (by omega), if_pos (by omega), if_pos (by omega), List.drop_eq_getElem_cons h0, List.map_cons, ew]
    clear ew
    generalize l[i] = x at *
    rw [intsL]
    by_cases t0 : x.f1 = 0
    · rw [if_pos t0, if_pos (show (flP x).2.1 = 0 from t0)]
      by_cases hf : 65536 ≤ out.length
      · rw [if_pos (by omega), if_pos hf]; rfl
      · rw [if_neg (by omega), if_neg hf, if_pos (by omega)]
        exact ih k (i + 1) _ (by omega) (by omega) (by simp; omega) (by omega)
    · rw [if_neg t0, if_neg (show ¬ (flP x).2.1 = 0 from t0)]
      by_cases t2 : x.f1 = 2
      · have e : pack_packed_s.f out x.f3 = some ((packedF x.f3.size out x.f3).1, ((packedF x.f3.size out x.f3).2 : Int)) := if_pos ⟨hsx, ho⟩
        rw [if_pos t2, if_pos (show (flP x).2.1 = 2 from t2), e, Option.bind_some]
        show (if ((packedF x.f3.size out x.f3).2 : Int) = 0 then _ else _) = some ((if (packedF x.f3.size out x.f3).2 ≠ 0 then ([], (packedF x.f3.size out x.f3).2) else intsL ((l.drop (i + 1)).map flP) (packedF x.f3.size out x.f3).1).1, _)
        have hp := packedF_len x.f3.size out x.f3 ho
        have hcv : (flP x).2.2.2 = x.f3 := rfl
        simp only [hcv]
        by_cases hz : (packedF x.f3.size out x.f3).2 = 0
        · rw [if_pos (by omega), if_neg (fun h => h hz)]
          exact ih k (i + 1) _ (by omega) (by omega) hp (by omega)
        · rw [if_neg (by omega), if_pos hz]
      · rw [if_neg t2, if_neg (show ¬ (flP x).2.1 = 2 from t2)]
        rfl
theorem pack_Ints_s.ev (l0 : List (S95)) (a1 : Int) (r) (h : pack_Ints_s.f l0 a1 = some r) : ∃ k, pack_Ints.f k l0 a1 = some r := by
  unfold pack_Ints_s.f at h
  split at h
  · rename_i hs
    rw [← h]
    have e : wire_All_s.f l0 a1 = some (l0.filter fun x => x.f0 == a1) := if_pos hs.1
    have hle : (l0.filter fun x => x.f0 == a1).length ≤ l0.length := List.length_filter_le _ _
    refine ⟨(l0.filter fun x => x.f0 == a1).length + 1, ?_⟩
    unfold pack_Ints.f
    rw [e, Option.bind_some]
    have := pack_Ints_eval (l0.filter fun x => x.f0 == a1) (by omega) (fun x hx => hs.2 x (List.mem_filter.1 hx).1) _ ((l0.filter fun x => x.f0 == a1).length + 1) 0 [] rfl (by omega) (by simp) (by omega)
    simpa using this
  · cases h
set_option maxHeartbeats 1000000 in
theorem pack_Ints_s.calls (A0 : Option Addr) (c0 : Nat) (l0 : List (S95)) (a1 : Int) (r1 : List Int) (r2 : Int) (w : World) (hr0 : Kd.C k95 w A0 l0.length l0) (hc0 : l0.length ≤ c0) (h : pack_Ints_s.f l0 a1 = some (r1, r2)) :
    Calls Tryz.prog 45 #[.slice A0 l0.length c0, .int .i64 a1] w fun e w' => ∃ v0_ : Value, e = .returned (.tuple #[v0_, .int .i64 r2]) ∧ Kd.R (Kd.int .i64) 2 w' w.heap.size (fun _ => True) v0_ r1 ∧ Below w.heap.size w w' := by
  obtain ⟨k, hk⟩ := pack_Ints_s.ev l0 a1 _ h
  exact pack_Ints.calls k A0 c0 l0 a1 r1 r2 w hr0 hc0 hk
def wire_Last.f (l0 : List (S95)) (a1 : Int) : Option (Int × Int × Int × ByteArray × Bool) := (wire_All_s.f l0 a1).bind fun t102 => (if (t102.length : Int) = 0 then (some (0, 0, 0, (⟨#[]⟩ : ByteArray), false)) else (if 0 ≤ (wrap64 ((t102.length : Int) - 1)) then (if (wrap64 ((t102.length : Int) - 1)) < (t102.length : Int) then (some ((rd_T95 t102 (wrap64 ((t102.length : Int) - 1))).f0, (rd_T95 t102 (wrap64 ((t102.length : Int) - 1))).f1, (rd_T95 t102 (wrap64 ((t102.length : Int) - 1))).f2, (rd_T95 t102 (wrap64 ((t102.length : Int) - 1))).f3, true)) else (none)) else (none)))
set_option maxHeartbeats 8000000 in
set_option maxRecDepth 100000 in
theorem wire_Last.calls (A0 : Option Addr) (c0 : Nat) (l0 : List (S95)) (a1 : Int) (r1 : Int) (r2 : Int) (r3 : Int) (r4 : ByteArray) (r5 : Bool) (w : World) (hr0 : Kd.C k95 w A0 l0.length l0) (hc0 : l0.length ≤ c0) (h : wire_Last.f l0 a1 = some (r1, r2, r3, r4, r5)) :
  Calls Tryz.prog 89 #[.slice A0 l0.length c0, .int .i64 a1] w fun e w' => e = .returned (.tuple #[.agg #[.int .i64 r1, .int .i64 r2, .int .u64 r3, .string r4], .bool r5]) ∧ Below w.heap.size w w' := by
 have hu95 := Tryz.underlying95; have HR0 := mk0 hr0; have HC0 := mk0 hc0; clear hr0 hc0; have HB := mk0 (Below.refl w.heap.size w); have H : ((wire_All_s.f l0 a1).bind fun t102 => (if (t102.length : Int) = 0 then (some (0, 0, 0, (⟨#[]⟩ : ByteArray), false)) else (if 0 ≤ (wrap64 ((t102.length : Int) - 1)) then (if (wrap64 ((t102.length : Int) - 1)) < (t102.length : Int) then (some ((rd_T95 t102 (wrap64 ((t102.length : Int) - 1))).f0, (rd_T95 t102 (wrap64 ((t102.length : Int) - 1))).f1, (rd_T95 t102 (wrap64 ((t102.length : Int) - 1))).f2, (rd_T95 t102 (wrap64 ((t102.length : Int) - 1))).f3, true)) else (none)) else (none)))) = some (r1, r2, r3, r4, r5) := h; clear h; replace H := bnd H; obtain ⟨t102, A3, H⟩ := H
 by_cases c4 : (t102.length : Int) = 0
 ·
  rw [if_pos c4] at H; have c4b0 := beq_iff_eq.mpr c4; have c4b1 := bne_eq_false_iff_eq.mpr c4; clear c4
  simp only [Option.some.injEq, Prod.mk.injEq] at H
  obtain ⟨rfl, rfl, rfl, rfl, rfl⟩ := H
  go_enter Tryz.func89, Tryz.ntmps89
  go_wp2_with (first | ((with_reducible refine gate_dst (N := 4) rfl ?_); refine boxE (N := 4) (cs := #[.int .i64 0, .int .i64 0, .int .u64 0, .string (⟨#[]⟩ : ByteArray)]) (t := 95) ?_; intro gb101 hg w5 hbox hb; have BK101 := mk0 hbox; have GW101 := gwS HB hg; have GE101 := gwS HB hg; replace HB := hbS HB hb; clear hb hbox hg) | ((with_reducible refine gate_callee (f := 81) rfl ?_); refine glE (some 9) rfl rfl Tryz.func81 (by kernel_rfl) rfl #[.slice A0 l0.length c0, .int .i64 a1] rfl ?_; (with_reducible refine (wire_All_s.calls _ _ l0 a1 t102 _ ?side1 ?side2 A3.out).mono ?_); (case side1 => repeat (first | exact (Kd.C_below HR0.out HB.out) | (with_reducible refine Kd.C_alloc ?_ _) | (with_reducible refine Kd.C_drewN ?_ _) | (with_reducible refine Kd.C_drew ?_))); (case side2 => exact HC0.out); rintro e w6 ⟨v103, rfl, ho0, hb⟩; refine ⟨_, rfl, ?_⟩; have HO104 := mk0 (Kd.R_lower (Kd.R_newB ho0 (g := gb101) (o := .cells #[.int .i64 0, .int .i64 0, .int .u64 0, .string (⟨#[]⟩ : ByteArray)] 95 (0, 0)) (bkA BK101)) (below_size (hbA HB))); replace BK101 := bkS BK101 hb; replace HB := hbS HB hb; (try clear hb); (try clear ho0); obtain ⟨Ao7, co7, eo7⟩ := Kd.R_slice HO104.out; subst eo7; obtain ⟨hcz8_0, hcz8_1, hcz8_2, hcz8_3⟩ := cz4 BK101; have hfz8_0 := fz BK101 0; have hfz8_1 := fz BK101 1; have hfz8_2 := fz BK101 2; have hfz8_3 := blk_frozen BK101.out 3))
  refine bodyPost_ret (results_ct rfl _ _ gb101 95 #[.int .i64 0, .int .i64 0, .int .u64 0, .string (⟨#[]⟩ : ByteArray)] (0, 0) _ rfl (bkW BK101) Tryz.underlying95 rfl (by kernel_rfl)) rfl ?_
  exact ⟨cl3, hbA HB⟩
 ·
  rw [if_neg c4] at H; have c4b0 := beq_eq_false_iff_ne.mpr c4; have c4b1 := bne_iff_ne.mpr c4; have c4b2 : ¬ (t102 = []) := fun h_ => c4 (by rw [h_]; rfl); obtain ⟨ji9, hji9⟩ : ∃ j_ : Int, (wrap64 ((t102.length : Int) - 1)) = j_ := ⟨_, rfl⟩; replace H : (if 0 ≤ (ji9) then (if (ji9) < (t102.length : Int) then (some ((rd_T95 t102 (ji9)).f0, (rd_T95 t102 (ji9)).f1, (rd_T95 t102 (ji9)).f2, (rd_T95 t102 (ji9)).f3, true)) else (none)) else (none)) = some (r1, r2, r3, r4, r5) := by first | (rw [hji9] at H; exact H) | (simp only [hji9] at H ⊢; exact H)
  (try rw [hji9] at A3)
  have hji9w : (IntKind.i64.wrap ((t102.length : Int) - 1)) = ji9 := (i64_w _).trans hji9; replace H := ifS H; obtain ⟨c10, H⟩ := H; have c10b0 := decide_eq_true c10; clear c10; replace H := ifS H; obtain ⟨c11, H⟩ := H; have c11b0 := decide_eq_true c11; clear c11
  simp only [Option.some.injEq, Prod.mk.injEq] at H
  obtain ⟨rfl, rfl, rfl, rfl, rfl⟩ := H
  go_enter Tryz.func89, Tryz.ntmps89
  go_wp2_with (first | ((with_reducible refine gate_dst (N := 4) rfl ?_); refine boxE (N := 4) (cs := #[.int .i64 0, .int .i64 0, .int .u64 0, .string (⟨#[]⟩ : ByteArray)]) (t := 95) ?_; intro gb101 hg w12 hbox hb; have BK101 := mk0 hbox; have GW101 := gwS HB hg; have GE101 := gwS HB hg; replace HB := hbS HB hb; clear hb hbox hg) | ((with_reducible refine gate_callee (f := 81) rfl ?_); refine glE (some 9) rfl rfl Tryz.func81 (by kernel_rfl) rfl #[.slice A0 l0.length c0, .int .i64 a1] rfl ?_; (with_reducible refine (wire_All_s.calls _ _ l0 a1 t102 _ ?side1 ?side2 A3.out).mono ?_); (case side1 => repeat (first | exact (Kd.C_below HR0.out HB.out) | (with_reducible refine Kd.C_alloc ?_ _) | (with_reducible refine Kd.C_drewN ?_ _) | (with_reducible refine Kd.C_drew ?_))); (case side2 => exact HC0.out); rintro e w13 ⟨v103, rfl, ho0, hb⟩; refine ⟨_, rfl, ?_⟩; have HO104 := mk0 (Kd.R_lower (Kd.R_newB ho0 (g := gb101) (o := .cells #[.int .i64 0, .int .i64 0, .int .u64 0, .string (⟨#[]⟩ : ByteArray)] 95 (0, 0)) (bkA BK101)) (below_size (hbA HB))); replace BK101 := bkS BK101 hb; replace HB := hbS HB hb; (try clear hb); (try clear ho0); obtain ⟨Ao14, co14, eo14⟩ := Kd.R_slice HO104.out; subst eo14; have p105 : 0 ≤ ((ji9) : Int) := ofd; have q105 : (ji9) < (t102.length : Int) := ofd; obtain ⟨ad105, e105, hx105_0, hx105_1, hx105_2, hx105_3⟩ := at_T95 (Kd.R_reads' HO104.out).2.2 (ji9) p105 q105; cases e105; replace p105 := eq_true p105; replace q105 := eq_true q105; obtain ⟨hcz15_0, hcz15_1, hcz15_2, hcz15_3⟩ := cz4 BK101; have hfz15_0 := fz BK101 0; have hfz15_1 := fz BK101 1; have hfz15_2 := fz BK101 2; have hfz15_3 := blk_frozen BK101.out 3))
  refine bodyPost_ret (results_ct rfl _ _ gb101 95 #[.int .i64 ((rd_T95 t102 (ji9)).f0), .int .i64 ((rd_T95 t102 (ji9)).f1), .int .u64 ((rd_T95 t102 (ji9)).f2), .string ((rd_T95 t102 (ji9)).f3)] (0, 0) _ rfl (bkW BK101) Tryz.underlying95 rfl (by kernel_rfl)) rfl ?_
  exact ⟨by first | rfl | (simp [errW_none, errW_some] <;> rfl) | (simp only [← hji9]; first | rfl | (simp [errW_none, errW_some] <;> rfl)) | (simp [*, errW_none, errW_some] <;> rfl), hbA HB⟩
def lastTup (x : Option (S95)) : Int × Int × Int × ByteArray × Bool := match x with
  | none => (0, 0, 0, ⟨#[]⟩, false)
  | some x => (x.f0, x.f1, x.f2, x.f3, true)
def wire_Last_s.f (l0 : List (S95)) (a1 : Int) : Option (Int × Int × Int × ByteArray × Bool) := if l0.length ≤ 3518437208883 then some (lastTup (l0.filter fun x => x.f0 == a1).getLast?) else none
theorem wire_Last_s.ev (l0 : List (S95)) (a1 : Int) (r) (h : wire_Last_s.f l0 a1 = some r) : ∃ k : Nat, wire_Last.f l0 a1 = some r := by
  unfold wire_Last_s.f at h
  split at h
  · rename_i hb
    rw [← h]
    refine ⟨0, ?_⟩
    have e : wire_All_s.f l0 a1 = some (l0.filter fun x => x.f0 == a1) := if_pos hb
    have hle : (l0.filter fun x => x.f0 == a1).length ≤ l0.length := List.length_filter_le _ _
    unfold wire_Last.f
    rw [e, Option.bind_some]
    generalize (l0.filter fun x => x.f0 == a1) = m at *
    by_cases hm : m.length = 0
    · rw [if_pos (by omega), List.eq_nil_of_length_eq_zero hm]; rfl
    · have ew : wrap64 ((m.length : Int) - 1) = ((m.length - 1 : Nat) : Int) := by rw [wrap64_id (by omega) (by omega)]; omega
      have e0 := rdP m (m.length - 1) (by omega)
      rw [if_neg (by omega), ew, if_pos (by omega), if_pos (by omega), e0, List.getLast?_eq_getElem?, List.getElem?_eq_getElem (by omega)]
      rfl
  · cases h
set_option maxHeartbeats 1000000 in
theorem wire_Last_s.calls (A0 : Option Addr) (c0 : Nat) (l0 : List (S95)) (a1 : Int) (r1 : Int) (r2 : Int) (r3 : Int) (r4 : ByteArray) (r5 : Bool) (w : World) (hr0 : Kd.C k95 w A0 l0.length l0) (hc0 : l0.length ≤ c0) (h : wire_Last_s.f l0 a1 = some (r1, r2, r3, r4, r5)) :
    Calls Tryz.prog 89 #[.slice A0 l0.length c0, .int .i64 a1] w fun e w' => e = .returned (.tuple #[.agg #[.int .i64 r1, .int .i64 r2, .int .u64 r3, .string r4], .bool r5]) ∧ Below w.heap.size w w' := by
  obtain ⟨k, hk⟩ := wire_Last_s.ev l0 a1 _ h
  exact wire_Last.calls A0 c0 l0 a1 r1 r2 r3 r4 r5 w hr0 hc0 hk
theorem below4 {w W : World} {g : Nat} {a b c d : Value} (h : Below w.heap.size w W) (hg : w.heap.size ≤ g) : Below w.heap.size w ((((W.setCell ⟨g, 0, none⟩ a).setCell ⟨g, 1, none⟩ b).setCell ⟨g, 2, none⟩ c).setCell ⟨g, 3, none⟩ d) :=
  below_set (below_set (below_set (below_set h hg) hg) hg) hg
theorem But.far {g : Nat} {w W : World} (h : But g w W) {p : Addr} (hp : w.heap.size ≤ p.block) (v : Value) : But g w (W.setCell p v) :=
  ⟨h.os, h.tape, h.output, by show _ ≤ (W.heap.modify p.block _).size; rw [Array.size_modify]; exact h.size, fun j hj hn => (Below.heap_setCell W p v j (Nat.ne_of_lt (Nat.lt_of_lt_of_le hj hp))).trans (h.block j hj hn)⟩
theorem But.far4 {w W : World} {g0 g : Nat} {a b c d : Value} (h : But g0 w W) (hg : w.heap.size ≤ g) : But g0 w ((((W.setCell ⟨g, 0, none⟩ a).setCell ⟨g, 1, none⟩ b).setCell ⟨g, 2, none⟩ c).setCell ⟨g, 3, none⟩ d) :=
  (((h.far (p := ⟨g, 0, none⟩) hg a).far (p := ⟨g, 1, none⟩) hg b).far (p := ⟨g, 2, none⟩) hg c).far (p := ⟨g, 3, none⟩) hg d
def lastE (ok : Bool) (ty kind e : Int) : Int := if ok = true then (if ty = kind then e else if e = 0 then 3 else e) else e
set_option maxHeartbeats 400000 in
set_option maxRecDepth 100000 in
theorem last_any (A : Option Addr) (c : Nat) (l : List S95) (num kind : Int) (g : Nat) (e : Int) (y0 y1 y2 : Int) (y3 : ByteArray) (ok : Bool) (w : World) (hr : Kd.C k95 w A l.length l) (hc : l.length ≤ c) (hl : l.length ≤ 3518437208883)
    (hb : w.heap[g]? = some (.cells #[.int .i64 e] 34 (0, 0))) (hx : lastTup ((l.filter fun x => x.f0 == num).getLast?) = (y0, y1, y2, y3, ok)) :
    Calls Tryz.prog 52 #[.slice A l.length c, .int .i64 num, .int .i64 kind, .pointer (some ⟨g, 0, none⟩)] w fun en w' => en = .returned (.tuple #[.agg #[.int .i64 y0, .int .i64 y1, .int .u64 y2, .string y3], .bool ok]) ∧ But g w w' ∧ w'.heap[g]? = some (.cells #[.int .i64 (lastE ok y1 kind e)] 34 (0, 0)) := by
  have hu2 := Tryz.underlying95
  have HQ := Aside0.mk (show wire_Last_s.f l num = some (y0, y1, y2, y3, ok) from (if_pos hl).trans (by rw [hx]))
  have HR := Aside0.mk hr
  have HLc := Aside0.mk hc
  have BK := Aside0.mk hb
  have HB := Aside0.mk (Below.refl w.heap.size w)
  clear hr hc hb hx hl
  go_enter Tryz.func52, Tryz.ntmps52
  go_wp2_with (first | ((with_reducible refine gate_dst (N := 8) rfl ?_); refine boxE (N := 8) (cs := #[.int .i64 0, .int .i64 0, .int .u64 0, .string (⟨#[]⟩ : ByteArray)]) (t := 95) ?_; intro gr hg w1 hbox hb; have BR := mk0 hbox; have GR := gwS HB hg; have NR := neS BK hg; have NR2 := neT BK hg; replace BK := bkS BK hb; replace HB := hbS HB hb; clear hb hbox hg))
  refine (wire_Last_s.calls A c l num y0 y1 y2 y3 ok _ (Kd.C_below HR.out HB.out) HLc.out HQ.out).mono ?_
  rintro en w2 ⟨rfl, hb⟩
  replace BR := bkS BR hb
  replace BK := bkS BK hb
  replace HB := hbS HB hb
  clear hb
  cases ok with
  | false =>
    go_wp2_with (first | ((with_reducible refine gate_dst (N := 10) rfl ?_); refine boxE (N := 10) (cs := #[.int .i64 0, .int .i64 0, .int .u64 0, .string (⟨#[]⟩ : ByteArray)]) (t := 95) ?_; intro gf hg w3 hbox hb; have BF := mk0 hbox; have GF := gwS HB hg; have NF := neS BK hg; have NRF := neS BR hg; have NF2 := neT BK hg; have NRF2 := neT BR hg; replace BK := bkS BK hb; replace BR := bkS BR hb; replace HB := hbS HB hb; clear hb hbox hg; obtain ⟨hc0, hc1, hc2, hc3⟩ := cz4 BF; have hf0 := fz BF 0; have hf1 := fz BF 1; have hf2 := fz BF 2; have hf3 := fz BF 3; obtain ⟨hr0, hr1, hr2, hr3⟩ := cz4 BR; have hs0 := fz BR 0; have hs1 := fz BR 1; have hs2 := fz BR 2; have hs3 := fz BR 3; have hce := cz1 BK; have hfe := fz BK 0; have n1 := NF.out; have n2 := NF2.out; have n3 := NRF.out; have n4 := NRF2.out; have n5 := NR.out))
    refine bodyPost_ret (results_ct rfl _ _ gr 95 #[.int .i64 y0, .int .i64 y1, .int .u64 y2, .string y3] (0, 0) _ rfl (bkW BR) Tryz.underlying95 rfl (by kernel_rfl)) rfl ?_
    exact ⟨rfl, But.of_below (below4 (below4 HB.out GF.out) GR.out), bkW BK⟩
  | true =>
    by_cases hk : y1 = kind
    · have b1 : (y1 != kind) = false := bne_eq_false_iff_eq.2 hk
      have E := Aside0.mk (show lastE true y1 kind e = e from by unfold lastE; rw [if_pos rfl, if_pos hk])
      clear hk
      go_wp2_with (first | ((with_reducible refine gate_dst (N := 10) rfl ?_); refine boxE (N := 10) (cs := #[.int .i64 0, .int .i64 0, .int .u64 0, .string (⟨#[]⟩ : ByteArray)]) (t := 95) ?_; intro gf hg w3 hbox hb; have BF := mk0 hbox; have GF := gwS HB hg; have NF := neS BK hg; have NRF := neS BR hg; have NF2 := neT BK hg; have NRF2 := neT BR hg; replace BK := bkS BK hb; replace BR := bkS BR hb; replace HB := hbS HB hb; clear hb hbox hg; obtain ⟨hc0, hc1, hc2, hc3⟩ := cz4 BF; have hf0 := fz BF 0; have hf1 := fz BF 1; have hf2 := fz BF 2; have hf3 := fz BF 3; obtain ⟨hr0, hr1, hr2, hr3⟩ := cz4 BR; have hs0 := fz BR 0; have hs1 := fz BR 1; have hs2 := fz BR 2; have hs3 := fz BR 3; have hce := cz1 BK; have hfe := fz BK 0; have n1 := NF.out; have n2 := NF2.out; have n3 := NRF.out; have n4 := NRF2.out; have n5 := NR.out))
      refine bodyPost_ret (results_ct rfl _ _ gr 95 #[.int .i64 y0, .int .i64 y1, .int .u64 y2, .string y3] (0, 0) _ rfl (bkW BR) Tryz.underlying95 rfl (by kernel_rfl)) rfl ?_
      refine ⟨rfl, But.of_below (below4 (below4 HB.out GF.out) GR.out), ?_⟩
      rw [E.out]
      exact bkW BK
    · have b1 : (y1 != kind) = true := bne_iff_ne.2 hk
      by_cases h0 : e = 0
      · subst h0
        have E := Aside0.mk (show lastE true y1 kind 0 = 3 from by unfold lastE; rw [if_pos rfl, if_neg hk, if_pos rfl])
        clear hk
        go_wp2_with (first | ((with_reducible refine gate_dst (N := 10) rfl ?_); refine boxE (N := 10) (cs := #[.int .i64 0, .int .i64 0, .int .u64 0, .string (⟨#[]⟩ : ByteArray)]) (t := 95) ?_; intro gf hg w3 hbox hb; have BF := mk0 hbox; have GF := gwS HB hg; have NF := neS BK hg; have NRF := neS BR hg; have NF2 := neT BK hg; have NRF2 := neT BR hg; replace BK := bkS BK hb; replace BR := bkS BR hb; replace HB := hbS HB hb; clear hb hbox hg; obtain ⟨hc0, hc1, hc2, hc3⟩ := cz4 BF; have hf0 := fz BF 0; have hf1 := fz BF 1; have hf2 := fz BF 2; have hf3 := fz BF 3; obtain ⟨hr0, hr1, hr2, hr3⟩ := cz4 BR; have hs0 := fz BR 0; have hs1 := fz BR 1; have hs2 := fz BR 2; have hs3 := fz BR 3; have hce := cz1 BK; have hfe := fz BK 0; have n1 := NF.out; have n2 := NF2.out; have n3 := NRF.out; have n4 := NRF2.out; have n5 := NR.out))
        refine bodyPost_ret (results_ct rfl _ _ gr 95 #[.int .i64 y0, .int .i64 y1, .int .u64 y2, .string y3] (0, 0) _ rfl (bkW BR) Tryz.underlying95 rfl (by kernel_rfl)) rfl ?_
        refine ⟨rfl, But.far4 ((But.of_below (below4 HB.out GF.out)).set _ _) GR.out, ?_⟩
        rw [E.out]
        exact bkW BK
      · have b2 : (e == 0) = false := beq_eq_false_iff_ne.2 h0
        have E := Aside0.mk (show lastE true y1 kind e = e from by unfold lastE; rw [if_pos rfl, if_neg hk, if_neg h0])
        clear hk h0
        go_wp2_with (first | ((with_reducible refine gate_dst (N := 10) rfl ?_); refine boxE (N := 10) (cs := #[.int .i64 0, .int .i64 0, .int .u64 0, .string (⟨#[]⟩ : ByteArray)]) (t := 95) ?_; intro gf hg w3 hbox hb; have BF := mk0 hbox; have GF := gwS HB hg; have NF := neS BK hg; have NRF := neS BR hg; have NF2 := neT BK hg; have NRF2 := neT BR hg; replace BK := bkS BK hb; replace BR := bkS BR hb; replace HB := hbS HB hb; clear hb hbox hg; obtain ⟨hc0, hc1, hc2, hc3⟩ := cz4 BF; have hf0 := fz BF 0; have hf1 := fz BF 1; have hf2 := fz BF 2; have hf3 := fz BF 3; obtain ⟨hr0, hr1, hr2, hr3⟩ := cz4 BR; have hs0 := fz BR 0; have hs1 := fz BR 1; have hs2 := fz BR 2; have hs3 := fz BR 3; have hce := cz1 BK; have hfe := fz BK 0; have n1 := NF.out; have n2 := NF2.out; have n3 := NRF.out; have n4 := NRF2.out; have n5 := NR.out))
        refine bodyPost_ret (results_ct rfl _ _ gr 95 #[.int .i64 y0, .int .i64 y1, .int .u64 y2, .string y3] (0, 0) _ rfl (bkW BR) Tryz.underlying95 rfl (by kernel_rfl)) rfl ?_
        refine ⟨rfl, But.of_below (below4 (below4 HB.out GF.out) GR.out), ?_⟩
        rw [E.out]
        exact bkW BK
def rowsE (e f : Int) : Int := if e = 0 then f else e
set_option maxHeartbeats 400000 in
set_option maxRecDepth 100000 in
theorem rows_any (A : Option Addr) (c : Nat) (l : List S95) (num : Int) (gl g : Nat) (e f : Int) (xs : List Int) (w : World) (hr : Kd.C k95 w A l.length l) (hc : l.length ≤ c) (hl : l.length ≤ 3518437208883) (hs : ∀ x ∈ l, x.f3.size ≤ 140737488351232)
    (hgl : w.heap[gl]? = some (.cells #[.slice A l.length c] 96 (0, 0))) (hb : w.heap[g]? = some (.cells #[.int .i64 e] 34 (0, 0))) (hx : intsL ((l.filter fun x => x.f0 == num).map flP) [] = (xs, f.toNat)) (hf : 0 ≤ f) :
    Calls Tryz.prog 53 #[.int .i64 num, .pointer (some ⟨gl, 0, none⟩), .pointer (some ⟨g, 0, none⟩)] w fun en w' => ∃ A' c', en = .returned (.slice A' xs.length c') ∧ Kd.R (Kd.int .i64) 2 w' w.heap.size (fun _ => True) (.slice A' xs.length c') xs ∧ But g w w' ∧ w'.heap[g]? = some (.cells #[.int .i64 (rowsE e f)] 34 (0, 0)) := by
  have HQ := Aside0.mk (show pack_Ints_s.f l num = some (xs, f) from (if_pos ⟨hl, hs⟩).trans (by rw [hx]; dsimp only; rw [Int.toNat_of_nonneg hf]))
  have HR := Aside0.mk hr
  have HLc := Aside0.mk hc
  have BL := Aside0.mk hgl
  have BK := Aside0.mk hb
  have HB := Aside0.mk (Below.refl w.heap.size w)
  have hlc := cz1 BL
  have hec := cz1 BK
  have HG := Aside0.mk hb
  clear hr hc hb hx hl hgl hs hf
  go_enter Tryz.func53, Tryz.ntmps53
  go_wp2_with (first | fail)
  refine (pack_Ints_s.calls A c l num xs f _ HR.out HLc.out HQ.out).mono ?_
  rintro en w2 ⟨v, rfl, hx, hb⟩
  obtain ⟨A', c', rfl⟩ := Kd.R_slice hx
  have HX := Aside0.mk hx
  replace BK := bkS BK hb
  replace HB := hbS HB hb
  clear hb hx hlc hec BL
  have hec := cz1 BK
  have hfe := fz BK 0
  by_cases h0 : e = 0
  · subst h0
    have E := Aside0.mk (show rowsE 0 f = f from if_pos rfl)
    go_wp2_with (first | fail)
    go_ret
    have hlt := blk_lt HG.out
    refine ⟨A', c', rfl, Kd.R_mono (Kd.R_far (p := ⟨g, 0, none⟩) (Kd.R_bound HX.out) (fun k hk e => by have := hk.2.1; simp only at e; omega) _) (fun _ _ => trivial), (But.of_below HB.out).set _ _, ?_⟩
    rw [E.out]
    exact bkW BK
  · have b2 : (e == 0) = false := beq_eq_false_iff_ne.2 h0
    have E := Aside0.mk (show rowsE e f = e from if_neg h0)
    clear h0
    go_wp2_with (first | fail)
    go_ret
    refine ⟨A', c', rfl, HX.out, But.of_below HB.out, ?_⟩
    rw [E.out]
    exact BK.out
def pack_Texts.l0 : Nat → List ByteArray → List (S95) → Int → Int → Option (List ByteArray × Int)
 | 0, _, _, _, _ => none
 | k + 1, x6, x11, x12, x13 => if x13 < x12 then (if 0 ≤ x13 then (if x13 < (x11.length : Int) then (if ((rd_T95 x11 x13).f1) = 2 then (if x6.length < 8796093022208 then (pack_Texts.l0 k (x6 ++ [(rd_T95 x11 x13).f3]) x11 x12 (wrap64 (x13 + 1))) else (none)) else (some (([] : List ByteArray), 3))) else (none)) else (none)) else (some (x6, 0))
def pack_Texts.f (k : Nat) (l0 : List (S95)) (a1 : Int) : Option (List ByteArray × Int) := (wire_All_s.f l0 a1).bind fun t101 => (pack_Texts.l0 k ([] : List ByteArray) t101 (t101.length : Int) 0)
set_option maxHeartbeats 8000000 in
set_option maxRecDepth 100000 in
theorem pack_Texts.calls (k : Nat) (A0 : Option Addr) (c0 : Nat) (l0 : List (S95)) (a1 : Int) (r1 : List ByteArray) (r2 : Int) (w : World) (hr0 : Kd.C k95 w A0 l0.length l0) (hc0 : l0.length ≤ c0) (h : pack_Texts.f k l0 a1 = some (r1, r2)) :
  Calls Tryz.prog 54 #[.slice A0 l0.length c0, .int .i64 a1] w fun e w' => ∃ v0_ : Value, e = .returned (.tuple #[v0_, .int .i64 r2]) ∧ Kd.R Kd.string 9 w' w.heap.size (fun _ => True) v0_ r1 ∧ Below w.heap.size w w' := by
 have hu95 := Tryz.underlying95; have HR0 := mk0 hr0; have HC0 := mk0 hc0; clear hr0 hc0; have HB := mk0 (Below.refl w.heap.size w); have H : ((wire_All_s.f l0 a1).bind fun t101 => (pack_Texts.l0 k ([] : List ByteArray) t101 (t101.length : Int) 0)) = some (r1, r2) := h; clear h; replace H := bnd H; obtain ⟨t101, A3, H⟩ := H; have H' := mk0 H; clear H
 go_enter Tryz.func54, Tryz.ntmps54
 go_wp2_with (first | ((with_reducible refine gate_callee (f := 81) rfl ?_); refine glE (some 11) rfl rfl Tryz.func81 (by kernel_rfl) rfl #[.slice A0 l0.length c0, .int .i64 a1] rfl ?_; (with_reducible refine (wire_All_s.calls _ _ l0 a1 t101 _ ?side1 ?side2 A3.out).mono ?_); (case side1 => repeat (first | exact HR0.out | (with_reducible refine Kd.C_alloc ?_ _) | (with_reducible refine Kd.C_drewN ?_ _) | (with_reducible refine Kd.C_drew ?_))); (case side2 => exact HC0.out); rintro e w4 ⟨v102, rfl, ho0, hb⟩; refine ⟨_, rfl, ?_⟩; have HO103 := mk0 (Kd.R_lower ho0 (below_size (hbA HB))); replace HB := hbS HB hb; (try clear hb); (try clear ho0); obtain ⟨Ao5, co5, eo5⟩ := Kd.R_slice HO103.out; subst eo5))
 go_loopg [6, 13] k (fun kq v6 v13 w' => ∃ (x6_1 : List ByteArray) (x13_1 : Int), v13 = .int .i64 x13_1 ∧ Aside0 (pack_Texts.l0 kq x6_1 t101 (t101.length : Int) x13_1 = some (r1, r2)) ∧ Aside0 (kq ≤ k) ∧ Aside0 (Kd.R Kd.string 9 w' w.heap.size (fun _ => True) v6 x6_1) ∧ Aside0 (Kd.R k95 95 w' w.heap.size (fun _ => True) (.slice Ao5 t101.length co5) t101) ∧ Aside0 (Below w.heap.size w w'))
 case atStart => exact ⟨(([] : List ByteArray)), (0), cl0, H', ⟨Nat.le_refl _⟩, ⟨by first | exact Kd.R_nil _ _ _ _ _ | exact Kd.N_nil _ _ _ _ _ | exact Kd.V_nil _ _ _ _ _ | exact Kd.Q_nil _ _ _ _ _ | exact Kd.S_nil _ _ _ _ _⟩, ⟨krA HO103⟩, ⟨hbA HB⟩⟩
 case round =>
  clear H'; obtain ⟨x6_1, x13_1, rfl, HA, HK1, HO_6, HO_11, HB⟩ := hrel
  cases gk with
  | zero => exact absurd HA.out (by simp [pack_Texts.l0])
  | succ k1 =>
   have H := HA.out; clear HA
   simp only [pack_Texts.l0] at H
   by_cases c6 : x13_1 < (t101.length : Int)
   ·
    rw [if_pos c6] at H; have c6b0 := decide_eq_true c6; clear c6; replace H := ifS H; obtain ⟨c7, H⟩ := H; have c7b0 := decide_eq_true c7; clear c7
    by_cases c8 : x13_1 < (t101.length : Int)
    ·
     rw [if_pos c8] at H; have c8b0 := decide_eq_true c8; clear c8
     by_cases c9 : ((rd_T95 t101 x13_1).f1) = 2
     ·
      rw [if_pos c9] at H; have c9b0 := beq_iff_eq.mpr c9; have c9b1 := bne_eq_false_iff_eq.mpr c9; clear c9; replace H := ifS H; obtain ⟨c10, H⟩ := H; have LMc10 := mk0 c10; clear c10; obtain ⟨y106, hy106⟩ : ∃ y_ : List ByteArray, y_ = (x6_1 ++ [(rd_T95 t101 x13_1).f3]) := ⟨_, rfl⟩; replace H : (pack_Texts.l0 k1 y106 t101 (t101.length : Int) (wrap64 (x13_1 + 1))) = some (r1, r2) := by first | (rw [hy106]; with_reducible exact H) | (have H2_ := (Option.bind_some _ _).symm.trans H; rw [hy106]; with_reducible exact H2_) | (have H2_ := (Option.bind_some _ _).symm.trans H; with_reducible exact H2_) | with_reducible exact H | (rw [hy106]; exact H) | exact H
      have Ny106 := mk0 hy106; clear hy106; have H' := mk0 H; clear H; have p104 : 0 ≤ (x13_1 : Int) := ofd; have q104 : x13_1 < (t101.length : Int) := ofd; obtain ⟨ad104, e104, hx104_0, hx104_1, hx104_2, hx104_3⟩ := at_T95 (Kd.R_reads' HO_11.out).2.2 x13_1 p104 q104; cases e104; replace p104 := eq_true p104; replace q104 := eq_true q104
      go_wp2_with (first | ((with_reducible refine gate_dst (N := 8) rfl ?_); refine boxE (N := 8) (cs := #[.int .i64 0, .int .i64 0, .int .u64 0, .string (⟨#[]⟩ : ByteArray)]) (t := 95) ?_; intro gb105 hg w11 hbox hb; replace HO_6 := mk0 (Kd.R_below (krA HO_6) hb); replace HO_11 := mk0 (Kd.R_below (Kd.R_elderB (krA HO_11) gb105 (Nat.le_of_eq hg.symm)) hb); have BK105 := mk0 hbox; have GW105 := gwS HB hg; have GE105 := gwS HB hg; replace HB := hbS HB hb; clear hb hbox hg; obtain ⟨hcz12_0, hcz12_1, hcz12_2, hcz12_3⟩ := cz4 BK105; have hfz12_0 := fz BK105 0; have hfz12_1 := fz BK105 1; have hfz12_2 := fz BK105 2; have hfz12_3 := fz BK105 3) | ((with_reducible refine gate_builtin (b := .append) (xs := #[.tmp 20, .tmp 23]) rfl ?_); at_builtin; refine Kd.R_append Kd.string (w0 := w) w.heap.size rfl (.tmp 20) (.tmp 23) 56 9 (.string ⟨#[]⟩) 16 rfl Tryz.underlying56 info9 rfl (by decide) (by omega) u6 x6_1 ((rd_T95 t101 x13_1).f3) [.string ((rd_T95 t101 x13_1).f3)] (fun _ => True) (fun _ => False) rfl (by first | (go_simp; done) | (go_simp; rfl)) ?aP (fun _ hk => hk.elim) ?aF ?aO ?aB ?aS ?aL ?_; (case aP => exact rfl); (case aB => exact (hbA HB)); (case aF => exact (fun _ _ => trivial)); (case aO => exact (by (with_reducible repeat (first | apply Kd.R_alloc | apply Kd.R_drewN | apply Kd.R_drew)); exact Kd.R_mono (Kd.R_far (p := ⟨gb105, 3, none⟩) (Kd.R_far (p := ⟨gb105, 2, none⟩) (Kd.R_far (p := ⟨gb105, 1, none⟩) (Kd.R_far (p := ⟨gb105, 0, none⟩) (Kd.R_types HO_6.out BK105.out (by decide)) (fun _ hk => hk.2) (.int .i64 ((rd_T95 t101 x13_1).f0))) (fun _ hk => hk.2) (.int .i64 ((rd_T95 t101 x13_1).f1))) (fun _ hk => hk.2) (.int .u64 ((rd_T95 t101 x13_1).f2))) (fun _ hk => hk.2) (.string ((rd_T95 t101 x13_1).f3))) (fun _ hk => trivial))); (case aS => exact (below_size (hbA HB))); (case aL => have := LMc10.out; omega); intro v107 w13 ho hb hg hat; rw [← Ny106.out] at ho; replace HO_11 := mk0 (Kd.R_over' (by (with_reducible repeat (first | apply Kd.R_alloc | apply Kd.R_drewN | apply Kd.R_drew)); exact (Kd.R_mono (Kd.R_far (p := ⟨gb105, 3, none⟩) (Kd.R_far (p := ⟨gb105, 2, none⟩) (Kd.R_far (p := ⟨gb105, 1, none⟩) (Kd.R_far (p := ⟨gb105, 0, none⟩) (Kd.R_mono HO_11.out (fun k_ hk => (⟨hk, hk.2⟩ : _ ∧ k_ ≠ gb105))) (fun _ hk => hk.2) (.int .i64 ((rd_T95 t101 x13_1).f0))) (fun _ hk => hk.2) (.int .i64 ((rd_T95 t101 x13_1).f1))) (fun _ hk => hk.2) (.int .u64 ((rd_T95 t101 x13_1).f2))) (fun _ hk => hk.2) (.string ((rd_T95 t101 x13_1).f3))) (fun _ h_ => h_.1))) (Kd.R_typed (by (with_reducible repeat (first | apply Kd.R_alloc | apply Kd.R_drewN | apply Kd.R_drew)); exact (Kd.R_mono (Kd.R_far (p := ⟨gb105, 3, none⟩) (Kd.R_far (p := ⟨gb105, 2, none⟩) (Kd.R_far (p := ⟨gb105, 1, none⟩) (Kd.R_far (p := ⟨gb105, 0, none⟩) (Kd.R_types HO_6.out BK105.out (by decide)) (fun _ hk => hk.2) (.int .i64 ((rd_T95 t101 x13_1).f0))) (fun _ hk => hk.2) (.int .i64 ((rd_T95 t101 x13_1).f1))) (fun _ hk => hk.2) (.int .u64 ((rd_T95 t101 x13_1).f2))) (fun _ hk => hk.2) (.string ((rd_T95 t101 x13_1).f3))) (fun _ h_ => h_.1)))) (by decide) hg); replace BK105 := mk0 (blk_grown (g := gb105) (o := .cells #[.int .i64 ((rd_T95 t101 x13_1).f0), .int .i64 ((rd_T95 t101 x13_1).f1), .int .u64 ((rd_T95 t101 x13_1).f2), .string ((rd_T95 t101 x13_1).f3)] 95 (0, 0)) (bkW BK105) hg (Kd.R_ne HO_6.out BK105.out (by decide))); replace HB := mk0 hb; have HO108 := mk0 ho; clear HO_6; clear ho hb hg hat))
      go_roundg k1
      case measure => have := HK1.out; omega
      case rel => exact ⟨(y106), (wrap64 (x13_1 + 1)), cl0, H', cl2 HK1, ⟨krA HO108⟩, ⟨by (with_reducible repeat (first | apply Kd.R_alloc | apply Kd.R_drewN | apply Kd.R_drew)); exact Kd.R_mono HO_11.out (fun _ hk => trivial)⟩, ⟨hbA HB⟩⟩
     ·
      rw [if_neg c9] at H; have c9b0 := beq_eq_false_iff_ne.mpr c9; have c9b1 := bne_iff_ne.mpr c9
      simp only [Option.some.injEq, Prod.mk.injEq] at H
      obtain ⟨rfl, rfl⟩ := H; have p104 : 0 ≤ (x13_1 : Int) := ofd; have q104 : x13_1 < (t101.length : Int) := ofd; obtain ⟨ad104, e104, hx104_0, hx104_1, hx104_2, hx104_3⟩ := at_T95 (Kd.R_reads' HO_11.out).2.2 x13_1 p104 q104; cases e104; replace p104 := eq_true p104; replace q104 := eq_true q104
      go_wp2_with (first | ((with_reducible refine gate_dst (N := 8) rfl ?_); refine boxE (N := 8) (cs := #[.int .i64 0, .int .i64 0, .int .u64 0, .string (⟨#[]⟩ : ByteArray)]) (t := 95) ?_; intro gb105 hg w14 hbox hb; replace HO_6 := mk0 (Kd.R_below (krA HO_6) hb); replace HO_11 := mk0 (Kd.R_below (Kd.R_elderB (krA HO_11) gb105 (Nat.le_of_eq hg.symm)) hb); have BK105 := mk0 hbox; have GW105 := gwS HB hg; have GE105 := gwS HB hg; replace HB := hbS HB hb; clear hb hbox hg; obtain ⟨hcz15_0, hcz15_1, hcz15_2, hcz15_3⟩ := cz4 BK105; have hfz15_0 := fz BK105 0; have hfz15_1 := fz BK105 1; have hfz15_2 := fz BK105 2; have hfz15_3 := blk_frozen BK105.out 3))
      go_ret2
      exact ⟨_, cl3, by first | exact Kd.R_nil _ _ _ _ _ | exact Kd.N_nil _ _ _ _ _ | exact Kd.V_nil _ _ _ _ _ | exact Kd.Q_nil _ _ _ _ _ | exact Kd.S_nil _ _ _ _ _, hbA HB⟩
    ·
     exact absurd (of_decide_eq_true c6b0) c8
   ·
    rw [if_neg c6] at H; have c6b0 := decide_eq_false c6; clear c6
    simp only [Option.some.injEq, Prod.mk.injEq] at H
    obtain ⟨rfl, rfl⟩ := H
    go_wp2
    go_ret2
    exact ⟨_, cl3, krA HO_6, hbA HB⟩
def pack_Texts_s.f (l0 : List (S95)) (a1 : Int) : Option (List ByteArray × Int) := if l0.length ≤ 3518437208883 then some ((textsL ((l0.filter fun x => x.f0 == a1).map flP) []).1, ((textsL ((l0.filter fun x => x.f0 == a1).map flP) []).2 : Int)) else none
theorem pack_Texts_eval (l : List (S95)) (hl : l.length ≤ 3518437208883) (d : Nat) : ∀ (k i : Nat) (out : List ByteArray), l.length - i = d → i ≤ l.length → out.length ≤ i → d < k →
    pack_Texts.l0 k out l l.length i = some ((textsL ((l.drop i).map flP) out).1, ((textsL ((l.drop i).map flP) out).2 : Int)) := by
  induction d with
  | zero =>
    intro k i out hd hi ho hk
    obtain ⟨k, rfl⟩ : ∃ m, k = m + 1 := ⟨k - 1, by omega⟩
    simp only [pack_Texts.l0]
    rw [if_neg (by omega), List.drop_of_length_le (by omega)]
    rfl
  | succ d ih =>
    intro k i out hd hi ho hk
    obtain ⟨k, rfl⟩ : ∃ m, k = m + 1 := ⟨k - 1, by omega⟩
    have h0 : i < l.length := by omega
    simp only [pack_Texts.l0, rdP l i h0]
    have ew : wrap64 ((i : Int) + 1) = ((i + 1 : Nat) : Int) := by rw [wrap64_id (by omega) (by omega)]; omega
    rw [if_pos (by omega), if_pos (by omega), if_pos (by omega), List.drop_eq_getElem_cons h0, List.map_cons, ew]
    clear ew
    generalize l[i] = x at *
    rw [textsL]
    by_cases t2 : x.f1 = 2
    · rw [if_pos t2, if_pos (show (flP x).2.1 = 2 from t2), if_pos (by omega)]
      exact ih k (i + 1) _ (by omega) (by omega) (by simp; omega) (by omega)
    · rw [if_neg t2, if_neg (show ¬ (flP x).2.1 = 2 from t2)]
      rfl
theorem pack_Texts_s.ev (l0 : List (S95)) (a1 : Int) (r) (h : pack_Texts_s.f l0 a1 = some r) : ∃ k, pack_Texts.f k l0 a1 = some r := by
  unfold pack_Texts_s.f at h
  split at h
  · rename_i hs
    rw [← h]
    have e : wire_All_s.f l0 a1 = some (l0.filter fun x => x.f0 == a1) := if_pos hs
    have hle : (l0.filter fun x => x.f0 == a1).length ≤ l0.length := List.length_filter_le _ _
    refine ⟨(l0.filter fun x => x.f0 == a1).length + 1, ?_⟩
    unfold pack_Texts.f
    rw [e, Option.bind_some]
    have := pack_Texts_eval (l0.filter fun x => x.f0 == a1) (by omega) _ ((l0.filter fun x => x.f0 == a1).length + 1) 0 [] rfl (by omega) (by simp) (by omega)
    simpa using this
  · cases h
set_option maxHeartbeats 1000000 in
theorem pack_Texts_s.calls (A0 : Option Addr) (c0 : Nat) (l0 : List (S95)) (a1 : Int) (r1 : List ByteArray) (r2 : Int) (w : World) (hr0 : Kd.C k95 w A0 l0.length l0) (hc0 : l0.length ≤ c0) (h : pack_Texts_s.f l0 a1 = some (r1, r2)) :
    Calls Tryz.prog 54 #[.slice A0 l0.length c0, .int .i64 a1] w fun e w' => ∃ v0_ : Value, e = .returned (.tuple #[v0_, .int .i64 r2]) ∧ Kd.R Kd.string 9 w' w.heap.size (fun _ => True) v0_ r1 ∧ Below w.heap.size w w' := by
  obtain ⟨k, hk⟩ := pack_Texts_s.ev l0 a1 _ h
  exact pack_Texts.calls k A0 c0 l0 a1 r1 r2 w hr0 hc0 hk
def wire_fixed.l0 : Nat → ByteArray → Int → Int → Int → Option (Int)
  | 0, _, _, _, _ => none
  | k + 1, x0, x3, x6, x7 => if x7 < x6 then (if 0 ≤ x7 then (if x7 < (x0.size : Int) then (if 0 ≤ (wrap64 (8 * x7)) then (wire_fixed.l0 k x0 (Go.bits .or .u64 x3 (shl .u64 (IntKind.u64.wrap (bt x0 x7)) (wrap64 (8 * x7)))) x6 (wrap64 (x7 + 1))) else (none)) else (none)) else (none)) else (some x3)
def wire_fixed.f (k : Nat) (a0 : ByteArray) : Option (Int) := wire_fixed.l0 k a0 0 (a0.size : Int) 0
set_option maxHeartbeats 8000000 in
set_option maxRecDepth 100000 in
theorem wire_fixed.calls (k : Nat) (a0 : ByteArray) (r : Int) (w : World) (h : wire_fixed.f k a0 = some r) :
    Calls Tryz.prog 100 #[.string a0] w fun e w' => e = .returned (.int .u64 r) ∧ Drawn0 w w' := by
  have H : (wire_fixed.l0 k a0 0 (a0.size : Int) 0) = some r := h; clear h; have H' := mk0 H; clear H
  go_enter Tryz.func100, Tryz.ntmps100
  go_wp2
  go_loopg [3, 7] k (fun kq v3 v7 w' => ∃ (x3_1 : Int) (x7_1 : Int), v3 = .int .u64 x3_1 ∧ v7 = .int .i64 x7_1 ∧ Aside0 (wire_fixed.l0 kq a0 x3_1 (a0.size : Int) x7_1 = some r) ∧ Aside0 (kq ≤ k) ∧ Drawn0 w w')
  case atStart => exact ⟨(0), (0), cl0, cl0, H', ⟨Nat.le_refl _⟩, by repeat (first | exact Drawn0.refl _ | apply Drawn0.step)⟩
  case round =>
    clear H'; obtain ⟨x3_1, x7_1, rfl, rfl, HA, HK1, ⟨m1, rfl⟩⟩ := hrel
    cases gk with
    | zero => exact absurd HA.out (by simp [wire_fixed.l0])
    | succ k1 =>
      have H := HA.out; clear HA
      simp only [wire_fixed.l0] at H
      by_cases c2 : x7_1 < (a0.size : Int)
      · rw [if_pos c2] at H
        have c2b0 := decide_eq_true c2; clear c2
        by_cases c3 : 0 ≤ x7_1
        · rw [if_pos c3] at H
          have c3b0 := decide_eq_true c3; clear c3
          by_cases c4 : x7_1 < (a0.size : Int)
          · rw [if_pos c4] at H
            have c4b0 := decide_eq_true c4; clear c4; obtain ⟨ji6, hji6⟩ : ∃ j_ : Int, (wrap64 (8 * x7_1)) = j_ := ⟨_, rfl⟩; replace H : (if 0 ≤ (ji6) then (wire_fixed.l0 k1 a0 (Go.bits .or .u64 x3_1 (shl .u64 (IntKind.u64.wrap (bt a0 x7_1)) (ji6))) (a0.size : Int) (wrap64 (x7_1 + 1))) else (none)) = some r := by first | (rw [hji6] at H; exact H) | (simp only [hji6] at H ⊢; exact H)
            have hji6w : (IntKind.i64.wrap (8 * x7_1)) = ji6 := (i64_w _).trans hji6
            by_cases c7 : 0 ≤ (ji6)
            · rw [if_pos c7] at H
              have c7b0 := eq_true c7; have c7b1 := decide_eq_true c7; clear c7; obtain ⟨ji8, hji8⟩ : ∃ j_ : Int, (shl .u64 (IntKind.u64.wrap (bt a0 x7_1)) (ji6)) = j_ := ⟨_, rfl⟩; replace H : (wire_fixed.l0 k1 a0 (Go.bits .or .u64 x3_1 (ji8)) (a0.size : Int) (wrap64 (x7_1 + 1))) = some r := by first | (rw [hji8] at H; exact H) | (simp only [hji8] at H ⊢; exact H)
              have hji8_ : (IntKind.u64.wrap ((IntKind.u64.wrap (bt a0 x7_1)) * 2 ^ min (ji6).toNat 64)) = ji8 := hji8; have hji8z : (ji6) ≤ 64 → (IntKind.u64.wrap ((IntKind.u64.wrap (bt a0 x7_1)) * 2 ^ (ji6).toNat)) = ji8 := shl_small hji8; have H' := mk0 H; clear H; have p5 : 0 ≤ (x7_1 : Int) := ofd; have q5 : x7_1 < (a0.size : Int) := ofd; have hx5 := bt_at a0 x7_1; replace p5 := eq_true p5; replace q5 := eq_true q5
              go_wp2
              go_roundg k1
              case measure => have := HK1.out; omega
              case rel => exact ⟨(Go.bits .or .u64 x3_1 (ji8)), (wrap64 (x7_1 + 1)), (by first | rfl | (simp; done) | (simp only [← hji8] <;> (first | rfl | simp)) | (simp [*]; done)), cl0, H', cl2 HK1, by repeat (first | exact Drawn0.refl _ | apply Drawn0.step)⟩
            · rw [if_neg c7] at H; exact ne0 H
          · rw [if_neg c4] at H; exact ne0 H
        · rw [if_neg c3] at H; exact ne0 H
      · rw [if_neg c2] at H
        have c2b0 := decide_eq_false c2; clear c2; obtain rfl := Option.some.inj H
        go_wp2
        go_ret
        exact ⟨by first | rfl | (simp; done) | (simp [*]; done), by repeat (first | exact Drawn0.refl _ | apply Drawn0.step)⟩
def wire_fixed_s.f (a0 : ByteArray) : Option Int := if a0.size ≤ 8 then some ((lowS (ns a0) : Nat) : Int) else none
theorem wire_fixed_eval (s : ByteArray) (hs : s.size ≤ 8) (d : Nat) : ∀ (k i : Nat), s.size - i = d → i ≤ s.size → d < k →
    wire_fixed.l0 k s (lowS ((ns s).take i) : Nat) (s.size : Int) (i : Int) = some ((lowS (ns s) : Nat) : Int) := by
  induction d with
  | zero =>
    intro k i hd hi hk
    obtain ⟨k, rfl⟩ : ∃ m, k = m + 1 := ⟨k - 1, by omega⟩
    simp only [wire_fixed.l0]
    rw [if_neg (by omega), List.take_of_length_le (by rw [ns_length]; omega)]
  | succ d ih =>
    intro k i hd hi hk
    obtain ⟨k, rfl⟩ : ∃ m, k = m + 1 := ⟨k - 1, by omega⟩
    have hlt : i < s.size := by omega
    have hb : bt s (i : Int) = ((s[i]'hlt).toNat : Int) := bt_ns s i hlt
    have hl : ((ns s).take i).length = i := by rw [List.length_take, ns_length]; omega
    have hv : lowS ((ns s).take i) < 256 ^ i := by
      have := lowS_lt ((ns s).take i) (fun c hc => ns_lt s c (List.mem_of_mem_take hc))
      rwa [hl] at this
    have ht : (ns s).take (i + 1) = (ns s).take i ++ [(s[i]'hlt).toNat] := by
      rw [List.take_succ_eq_append_getElem (by rw [ns_length]; exact hlt), ns_get s i hlt]
    simp only [wire_fixed.l0]
    rw [if_pos (by omega), if_pos (by omega), if_pos (by omega), if_pos (by rw [wrap64_id (by omega) (by omega)]; omega), hb, wire_fixed_step _ _ i hv (by omega) (s[i]'hlt).toNat_lt]
    have := ih k (i + 1) (by omega) (by omega) (by omega)
    rw [ht, lowS_snoc, hl] at this
    rw [wrap64_id (by omega) (by omega)]
    exact this
theorem wire_fixed_s.ev (a0 : ByteArray) (r) (h : wire_fixed_s.f a0 = some r) : ∃ k, wire_fixed.f k a0 = some r := by
  unfold wire_fixed_s.f at h
  split at h
  · rename_i hs
    exact ⟨a0.size + 1, (wire_fixed_eval a0 hs a0.size (a0.size + 1) 0 (by omega) (by omega) (by omega)).trans h⟩
  · cases h
set_option maxHeartbeats 1000000 in
theorem wire_fixed_s.calls (a0 : ByteArray) (r : Int) (w : World) (h : wire_fixed_s.f a0 = some r) :
    Calls Tryz.prog 100 #[.string a0] w fun e w' => e = .returned (.int .u64 r) ∧ Drawn0 w w' := by
  obtain ⟨k, hk⟩ := wire_fixed_s.ev a0 _ h
  exact wire_fixed.calls k a0 r w hk
def wire_one.j0 : Nat → ByteArray → Int → Int → Int → Bool → Int → Int → Int → ByteArray → Option (Int × Int × Int × ByteArray × Int × Int)
 | 0, _, _, _, _, _, _, _, _, _ => none
 | k + 1, x0, x6, x9, x40, x41, x107000, x107001, x107002, x107003 => if x41 = true then (if 0 ≤ x6 then (if x6 ≤ (x0.size : Int) then ((varint_Read.f (x0.extract (x6 : Int).toNat x0.size)).bind fun bt107 => (if bt107.2.2 = 0 then (if x107001 = 0 then (some (x107000, x107001, bt107.1, x107003, wrap64 (x6 + bt107.2.1), 0)) else (if bt107.1 > (IntKind.u64.wrap (wrap64 ((x0.size : Int) - (wrap64 (x6 + bt107.2.1))))) then (some (0, 0, 0, (⟨#[]⟩ : ByteArray), 0, 1)) else (if 0 ≤ (wrap64 (x6 + bt107.2.1)) then (if (wrap64 (x6 + bt107.2.1)) ≤ (wrap64 ((wrap64 (x6 + bt107.2.1)) + (wrap64 (bt107.1)))) then (if (wrap64 ((wrap64 (x6 + bt107.2.1)) + (wrap64 (bt107.1)))) ≤ (x0.size : Int) then (some (x107000, x107001, x107002, x0.extract ((wrap64 (x6 + bt107.2.1)) : Int).toNat ((wrap64 ((wrap64 (x6 + bt107.2.1)) + (wrap64 (bt107.1)))) : Int).toNat, wrap64 ((wrap64 (x6 + bt107.2.1)) + (wrap64 (bt107.1))), 0)) else (none)) else (none)) else (none)))) else (some (0, 0, 0, (⟨#[]⟩ : ByteArray), 0, bt107.2.2)))) else (none)) else (none)) else (if x40 = 5 then (if (wrap64 ((x0.size : Int) - x6)) < 4 then (some (0, 0, 0, (⟨#[]⟩ : ByteArray), 0, 1)) else (if 0 ≤ x6 then (if x6 ≤ (wrap64 (x6 + 4)) then (if (wrap64 (x6 + 4)) ≤ (x0.size : Int) then ((wire_fixed_s.f (x0.extract (x6 : Int).toNat ((wrap64 (x6 + 4)) : Int).toNat)).bind fun t110 => (some (x107000, x107001, t110, x107003, wrap64 (x6 + 4), 0))) else (none)) else (none)) else (none))) else (if (wrap64 ((x0.size : Int) - x6)) < x9 then (some (0, 0, 0, (⟨#[]⟩ : ByteArray), 0, 1)) else (if 0 ≤ x6 then (if x6 ≤ (wrap64 (x6 + x9)) then (if (wrap64 (x6 + x9)) ≤ (x0.size : Int) then ((wire_fixed_s.f (x0.extract (x6 : Int).toNat ((wrap64 (x6 + x9)) : Int).toNat)).bind fun t111 => (some (x107000, x107001, t111, x107003, wrap64 (x6 + x9), 0))) else (none)) else (none)) else (none))))
def wire_one.f (k : Nat) (a0 : ByteArray) : Option (Int × Int × Int × ByteArray × Int × Int) := (varint_Read.f a0).bind fun bt102 => (if bt102.2.2 = 0 then ((wire_may.f (bt102.1 / 8) (Go.bits .and .u64 bt102.1 7)).bind fun t105 => (if t105 = true then (if (wrap64 (Go.bits .and .u64 bt102.1 7)) = 0 then (wire_one.j0 k a0 bt102.2.1 8 (wrap64 (Go.bits .and .u64 bt102.1 7)) ((wrap64 (Go.bits .and .u64 bt102.1 7)) == 0) (wrap64 (bt102.1 / 8)) (wrap64 (Go.bits .and .u64 bt102.1 7)) 0 (⟨#[]⟩ : ByteArray)) else (wire_one.j0 k a0 bt102.2.1 8 (wrap64 (Go.bits .and .u64 bt102.1 7)) ((wrap64 (Go.bits .and .u64 bt102.1 7)) == 2) (wrap64 (bt102.1 / 8)) (wrap64 (Go.bits .and .u64 bt102.1 7)) 0 (⟨#[]⟩ : ByteArray))) else (some (0, 0, 0, (⟨#[]⟩ : ByteArray), 0, 3)))) else (some (0, 0, 0, (⟨#[]⟩ : ByteArray), 0, bt102.2.2)))
set_option maxHeartbeats 8000000 in
set_option maxRecDepth 100000 in
theorem wire_one.calls (k : Nat) (a0 : ByteArray) (r1 : Int) (r2 : Int) (r3 : Int) (r4 : ByteArray) (r5 : Int) (r6 : Int) (w : World) (h : wire_one.f k a0 = some (r1, r2, r3, r4, r5, r6)) :
  Calls Tryz.prog 88 #[.string a0] w fun e w' => e = .returned (.tuple #[.agg #[.int .i64 r1, .int .i64 r2, .int .u64 r3, .string r4], .int .i64 r5, .int .i64 r6]) ∧ Below w.heap.size w w' := by
 have hu95 := Tryz.underlying95; have HB := mk0 (Below.refl w.heap.size w); have H : ((varint_Read.f a0).bind fun bt102 => (if bt102.2.2 = 0 then ((wire_may.f (bt102.1 / 8) (Go.bits .and .u64 bt102.1 7)).bind fun t105 => (if t105 = true then (if (wrap64 (Go.bits .and .u64 bt102.1 7)) = 0 then (wire_one.j0 k a0 bt102.2.1 8 (wrap64 (Go.bits .and .u64 bt102.1 7)) ((wrap64 (Go.bits .and .u64 bt102.1 7)) == 0) (wrap64 (bt102.1 / 8)) (wrap64 (Go.bits .and .u64 bt102.1 7)) 0 (⟨#[]⟩ : ByteArray)) else (wire_one.j0 k a0 bt102.2.1 8 (wrap64 (Go.bits .and .u64 bt102.1 7)) ((wrap64 (Go.bits .and .u64 bt102.1 7)) == 2) (wrap64 (bt102.1 / 8)) (wrap64 (Go.bits .and .u64 bt102.1 7)) 0 (⟨#[]⟩ : ByteArray))) else (some (0, 0, 0, (⟨#[]⟩ : ByteArray), 0, 3)))) else (some (0, 0, 0, (⟨#[]⟩ : ByteArray), 0, bt102.2.2)))) = some (r1, r2, r3, r4, r5, r6) := h; clear h; replace H := Option.bind_eq_some_iff.mp H; obtain ⟨⟨t102, t103, t104⟩, A20, H⟩ := H; replace H : (if t104 = 0 then ((wire_may.f (t102 / 8) (Go.bits .and .u64 t102 7)).bind fun t105 => (if t105 = true then (if (wrap64 (Go.bits .and .u64 t102 7)) = 0 then (wire_one.j0 k a0 t103 8 (wrap64 (Go.bits .and .u64 t102 7)) ((wrap64 (Go.bits .and .u64 t102 7)) == 0) (wrap64 (t102 / 8)) (wrap64 (Go.bits .and .u64 t102 7)) 0 (⟨#[]⟩ : ByteArray)) else (wire_one.j0 k a0 t103 8 (wrap64 (Go.bits .and .u64 t102 7)) ((wrap64 (Go.bits .and .u64 t102 7)) == 2) (wrap64 (t102 / 8)) (wrap64 (Go.bits .and .u64 t102 7)) 0 (⟨#[]⟩ : ByteArray))) else (some (0, 0, 0, (⟨#[]⟩ : ByteArray), 0, 3)))) else (some (0, 0, 0, (⟨#[]⟩ : ByteArray), 0, t104))) = some (r1, r2, r3, r4, r5, r6) := H; have A2 := mk0 A20; clear A20
 by_cases c3 : t104 = 0
 ·
  rw [if_pos c3] at H; have c3b0 := beq_iff_eq.mpr c3; have c3b1 := bne_eq_false_iff_eq.mpr c3; clear c3; replace H := bnd H; obtain ⟨t105, A4, H⟩ := H
  by_cases c5 : t105 = true
  ·
   subst c5; have H1 : (if (wrap64 (Go.bits .and .u64 t102 7)) = 0 then (wire_one.j0 k a0 t103 8 (wrap64 (Go.bits .and .u64 t102 7)) ((wrap64 (Go.bits .and .u64 t102 7)) == 0) (wrap64 (t102 / 8)) (wrap64 (Go.bits .and .u64 t102 7)) 0 (⟨#[]⟩ : ByteArray)) else (wire_one.j0 k a0 t103 8 (wrap64 (Go.bits .and .u64 t102 7)) ((wrap64 (Go.bits .and .u64 t102 7)) == 2) (wrap64 (t102 / 8)) (wrap64 (Go.bits .and .u64 t102 7)) 0 (⟨#[]⟩ : ByteArray))) = some (r1, r2, r3, r4, r5, r6) := by rw [if_pos rfl] at H; exact H
   clear H; have H := H1; clear H1; have HC6 := mk0 H; clear H
   go_enter Tryz.func88, Tryz.ntmps88
   go_upto_if 41 with (first | ((with_reducible refine gate_dst (N := 2) rfl ?_); refine boxE (N := 2) (cs := #[.int .i64 0, .int .i64 0, .int .u64 0, .string (⟨#[]⟩ : ByteArray)]) (t := 95) ?_; intro gb101 hg w7 hbox hb; have BK101 := mk0 hbox; have GW101 := gwS HB hg; have GE101 := gwS HB hg; replace HB := hbS HB hb; clear hb hbox hg) | ((with_reducible refine gate_callee (f := 97) rfl ?_); refine glE (some 15) rfl rfl Tryz.func97 (by kernel_rfl) rfl #[.string a0] rfl ?_; (with_reducible refine (varint_Read.calls a0 t102 t103 t104 _ A2.out).mono ?_); rintro e w' ⟨rfl, ⟨nd, rfl⟩⟩; refine ⟨_, rfl, ?_⟩; (try (rw [drewN_self w7]; generalize hq_ : World.drewN w7 _ = w7; have n0_ : Aside0 (w7.heap[gb101]? = some (.cells #[.int .i64 0, .int .i64 0, .int .u64 0, .string (⟨#[]⟩ : ByteArray)] 95 (0, 0))) := ⟨by rw [← hq_]; exact (bkA BK101)⟩; have n1_ : Aside0 (Below w.heap.size w w7) := ⟨by rw [← hq_]; exact (hbA HB)⟩; clear BK101 HB hq_; have BK101 := n0_; have HB := n1_; clear n0_ n1_))) | ((with_reducible refine gate_callee (f := 93) rfl ?_); refine glE (some 29) rfl rfl Tryz.func93 (by kernel_rfl) rfl #[.int .u64 (t102 / 8), .int .u64 (Go.bits .and .u64 t102 7)] rfl ?_; (with_reducible refine (wire_may.calls (t102 / 8) (Go.bits .and .u64 t102 7) true _ A4.out).mono ?_); rintro e w' ⟨rfl, ⟨nd, rfl⟩⟩; refine ⟨_, rfl, ?_⟩; (try (rw [drewN_self w7]; generalize hq_ : World.drewN w7 _ = w7; have n0_ : Aside0 (w7.heap[gb101]? = some (.cells #[.int .i64 0, .int .i64 0, .int .u64 0, .string (⟨#[]⟩ : ByteArray)] 95 (0, 0))) := ⟨by rw [← hq_]; exact (bkA BK101)⟩; have n1_ : Aside0 (Below w.heap.size w w7) := ⟨by rw [← hq_]; exact (hbA HB)⟩; clear BK101 HB hq_; have BK101 := n0_; have HB := n1_; clear n0_ n1_))) | ((with_reducible refine gate_dst (N := 8) rfl ?_); refine boxE (N := 8) (cs := #[.int .i64 0, .int .i64 0, .int .u64 0, .string (⟨#[]⟩ : ByteArray)]) (t := 95) ?_; intro gb106 hg w8 hbox hb; have BK106 := mk0 hbox; have GW106 := gwS HB hg; have GE106 := gwS HB hg; replace HB := hbS HB hb; have NB101_106 := neS BK101 hg; have NB106_101 := neT BK101 hg; replace BK101 := bkS BK101 hb; clear hb hbox hg; have hnb9 := NB106_101.out; have hnc9 := NB101_106.out; obtain ⟨hcz10_0, hcz10_1, hcz10_2, hcz10_3⟩ := cz4 BK106; have hfz10_0 := fz BK106 0; have hfz10_1 := fz BK106 1; have hfz10_2 := fz BK106 2; have hfz10_3 := blk_frozen BK106.out 3))
   (try simp only [Act.put, List.setIfInBounds_toArray, List.set_cons_zero, List.set_cons_succ])
   go_cut [41] (fun v41 wc => ∃ (kq : Nat) (x41_5 : Bool), v41 = .bool x41_5 ∧ Aside0 (wire_one.j0 kq a0 t103 8 (wrap64 (Go.bits .and .u64 t102 7)) x41_5 (wrap64 (t102 / 8)) (wrap64 (Go.bits .and .u64 t102 7)) 0 (⟨#[]⟩ : ByteArray) = some (r1, r2, r3, r4, r5, r6)) ∧ Aside0 (kq ≤ k) ∧ Aside0 (wc.heap[gb101]? = some (.cells #[.int .i64 0, .int .i64 0, .int .u64 0, .string (⟨#[]⟩ : ByteArray)] 95 (0, 0))) ∧ Aside0 (wc.heap[gb106]? = some (.cells #[.int .i64 (wrap64 (t102 / 8)), .int .i64 (wrap64 (Go.bits .and .u64 t102 7)), .int .u64 0, .string (⟨#[]⟩ : ByteArray)] 95 (0, 0))) ∧ Aside0 (Below w.heap.size w wc))
   case first =>
    have H := HC6.out; clear HC6
    by_cases c11 : (wrap64 (Go.bits .and .u64 t102 7)) = 0
    ·
     rw [if_pos c11] at H; have c11b0 := beq_iff_eq.mpr c11; have c11b1 := bne_eq_false_iff_eq.mpr c11; clear c11
     (first | rw [c11b0] | (simp only [i64_w, i32_w]; rw [c11b0]) | skip)
     have H' := mk0 H; clear H
     go_wp2
     go_meet
     case rel => exact ⟨_, (((wrap64 (Go.bits .and .u64 t102 7)) == 0)), cl0, H', cl1, ⟨bkW BK101⟩, ⟨bkW BK106⟩, ⟨hbA HB⟩⟩
    ·
     rw [if_neg c11] at H; have c11b0 := beq_eq_false_iff_ne.mpr c11; have c11b1 := bne_iff_ne.mpr c11
     (first | rw [c11b0] | (simp only [i64_w, i32_w]; rw [c11b0]) | skip)
     have H' := mk0 H; clear H
     go_wp2
     go_meet
     case rel => exact ⟨_, (((wrap64 (Go.bits .and .u64 t102 7)) == 2)), cl0, H', cl1, ⟨bkW BK101⟩, ⟨bkW BK106⟩, ⟨hbA HB⟩⟩
   case rest =>
    clear HC6; try clear c3; try clear c3b0; try clear c3b1; try clear c5; try clear hcz10_0; try clear hcz10_1; try clear hcz10_2; try clear hcz10_3; try clear hfz10_0; try clear hfz10_1; try clear hfz10_2; try clear hfz10_3
    obtain ⟨kq, x41_5, rfl, HA, HJ5, BK101, BK106, HB⟩ := hcut
    cases kq with
    | zero => exact absurd HA.out (by simp [wire_one.j0])
    | succ kj5 =>
     have H := HA.out; clear HA
     simp only [wire_one.j0] at H
     by_cases c12 : x41_5 = true
     ·
      subst c12; have H1 : (if 0 ≤ t103 then (if t103 ≤ (a0.size : Int) then ((varint_Read.f (a0.extract (t103 : Int).toNat a0.size)).bind fun bt107 => (if bt107.2.2 = 0 then (if (wrap64 (Go.bits .and .u64 t102 7)) = 0 then (some ((wrap64 (t102 / 8)), (wrap64 (Go.bits .and .u64 t102 7)), bt107.1, (⟨#[]⟩ : ByteArray), wrap64 (t103 + bt107.2.1), 0)) else (if bt107.1 > (IntKind.u64.wrap (wrap64 ((a0.size : Int) - (wrap64 (t103 + bt107.2.1))))) then (some (0, 0, 0, (⟨#[]⟩ : ByteArray), 0, 1)) else (if 0 ≤ (wrap64 (t103 + bt107.2.1)) then (if (wrap64 (t103 + bt107.2.1)) ≤ (wrap64 ((wrap64 (t103 + bt107.2.1)) + (wrap64 (bt107.1)))) then (if (wrap64 ((wrap64 (t103 + bt107.2.1)) + (wrap64 (bt107.1)))) ≤ (a0.size : Int) then (some ((wrap64 (t102 / 8)), (wrap64 (Go.bits .and .u64 t102 7)), 0, a0.extract ((wrap64 (t103 + bt107.2.1)) : Int).toNat ((wrap64 ((wrap64 (t103 + bt107.2.1)) + (wrap64 (bt107.1)))) : Int).toNat, wrap64 ((wrap64 (t103 + bt107.2.1)) + (wrap64 (bt107.1))), 0)) else (none)) else (none)) else (none)))) else (some (0, 0, 0, (⟨#[]⟩ : ByteArray), 0, bt107.2.2)))) else (none)) else (none)) = some (r1, r2, r3, r4, r5, r6) := by rw [if_pos rfl] at H; exact H
      clear H; have H := H1; clear H1; replace H := ifS H; obtain ⟨c13, H⟩ := H; have c13b0 := eq_true c13; have c13b1 := decide_eq_true c13; clear c13; replace H := ifS H; obtain ⟨c14, H⟩ := H; have c14b0 := eq_true c14; have c14b1 := decide_eq_true c14; clear c14; replace H := Option.bind_eq_some_iff.mp H; obtain ⟨⟨t107, t108, t109⟩, A150, H⟩ := H; replace H : (if t109 = 0 then (if (wrap64 (Go.bits .and .u64 t102 7)) = 0 then (some ((wrap64 (t102 / 8)), (wrap64 (Go.bits .and .u64 t102 7)), t107, (⟨#[]⟩ : ByteArray), wrap64 (t103 + t108), 0)) else (if t107 > (IntKind.u64.wrap (wrap64 ((a0.size : Int) - (wrap64 (t103 + t108))))) then (some (0, 0, 0, (⟨#[]⟩ : ByteArray), 0, 1)) else (if 0 ≤ (wrap64 (t103 + t108)) then (if (wrap64 (t103 + t108)) ≤ (wrap64 ((wrap64 (t103 + t108)) + (wrap64 (t107)))) then (if (wrap64 ((wrap64 (t103 + t108)) + (wrap64 (t107)))) ≤ (a0.size : Int) then (some ((wrap64 (t102 / 8)), (wrap64 (Go.bits .and .u64 t102 7)), 0, a0.extract ((wrap64 (t103 + t108)) : Int).toNat ((wrap64 ((wrap64 (t103 + t108)) + (wrap64 (t107)))) : Int).toNat, wrap64 ((wrap64 (t103 + t108)) + (wrap64 (t107))), 0)) else (none)) else (none)) else (none)))) else (some (0, 0, 0, (⟨#[]⟩ : ByteArray), 0, t109))) = some (r1, r2, r3, r4, r5, r6) := H; have A15 := mk0 A150; clear A150
      by_cases c16 : t109 = 0
      ·
       rw [if_pos c16] at H; have c16b0 := beq_iff_eq.mpr c16; have c16b1 := bne_eq_false_iff_eq.mpr c16; clear c16
       by_cases c17 : (wrap64 (Go.bits .and .u64 t102 7)) = 0
       ·
        rw [if_pos c17] at H; have c17b0 := beq_iff_eq.mpr c17; have c17b1 := bne_eq_false_iff_eq.mpr c17; clear c17
        simp only [Option.some.injEq, Prod.mk.injEq] at H
        obtain ⟨rfl, rfl, rfl, rfl, rfl, rfl⟩ := H
        go_wp2_with (first | ((with_reducible refine gate_callee (f := 97) rfl ?_); refine glE (some 48) rfl rfl Tryz.func97 (by kernel_rfl) rfl #[.string (a0.extract (t103 : Int).toNat a0.size)] rfl ?_; (with_reducible refine (varint_Read.calls (a0.extract (t103 : Int).toNat a0.size) t107 t108 t109 _ A15.out).mono ?_); rintro e w' ⟨rfl, ⟨nd, rfl⟩⟩; refine ⟨_, rfl, ?_⟩; (try (rw [drewN_self wc]; generalize hq_ : World.drewN wc _ = wc; have n0_ : Aside0 (wc.heap[gb101]? = some (.cells #[.int .i64 0, .int .i64 0, .int .u64 0, .string (⟨#[]⟩ : ByteArray)] 95 (0, 0))) := ⟨by rw [← hq_]; exact (bkA BK101)⟩; have n1_ : Aside0 (wc.heap[gb106]? = some (.cells #[.int .i64 (wrap64 (t102 / 8)), .int .i64 (wrap64 (Go.bits .and .u64 t102 7)), .int .u64 0, .string (⟨#[]⟩ : ByteArray)] 95 (0, 0))) := ⟨by rw [← hq_]; exact (bkA BK106)⟩; have n2_ : Aside0 (Below w.heap.size w wc) := ⟨by rw [← hq_]; exact (hbA HB)⟩; clear BK101 BK106 HB hq_; have BK101 := n0_; have BK106 := n1_; have HB := n2_; clear n0_ n1_ n2_)); have hnb18 := NB106_101.out; have hnc18 := NB101_106.out; obtain ⟨hcz19_0, hcz19_1, hcz19_2, hcz19_3⟩ := cz4 BK106; have hfz19_0 := fz BK106 0; have hfz19_1 := fz BK106 1; have hfz19_2 := fz BK106 2; have hfz19_3 := fz BK106 3; obtain ⟨hcz20_0, hcz20_1, hcz20_2, hcz20_3⟩ := cz4 BK101; have hfz20_0 := fz BK101 0; have hfz20_1 := fz BK101 1; have hfz20_2 := fz BK101 2; have hfz20_3 := blk_frozen BK101.out 3))
        refine bodyPost_ret (results_ctt rfl _ _ gb101 95 #[.int .i64 (wrap64 (t102 / 8)), .int .i64 (wrap64 (Go.bits .and .u64 t102 7)), .int .u64 t107, .string (⟨#[]⟩ : ByteArray)] (0, 0) _ rfl (bkW BK101) Tryz.underlying95 rfl (by kernel_rfl)) rfl ?_
        exact ⟨cl3, hbA HB⟩
       ·
        rw [if_neg c17] at H; have c17b0 := beq_eq_false_iff_ne.mpr c17; have c17b1 := bne_iff_ne.mpr c17
        by_cases c21 : t107 > (IntKind.u64.wrap (wrap64 ((a0.size : Int) - (wrap64 (t103 + t108)))))
        ·
         rw [if_pos c21] at H; have c21b0 := decide_eq_true c21; clear c21
         simp only [Option.some.injEq, Prod.mk.injEq] at H
         obtain ⟨rfl, rfl, rfl, rfl, rfl, rfl⟩ := H
         go_wp2_with (first | ((with_reducible refine gate_callee (f := 97) rfl ?_); refine glE (some 48) rfl rfl Tryz.func97 (by kernel_rfl) rfl #[.string (a0.extract (t103 : Int).toNat a0.size)] rfl ?_; (with_reducible refine (varint_Read.calls (a0.extract (t103 : Int).toNat a0.size) t107 t108 t109 _ A15.out).mono ?_); rintro e w' ⟨rfl, ⟨nd, rfl⟩⟩; refine ⟨_, rfl, ?_⟩; (try (rw [drewN_self wc]; generalize hq_ : World.drewN wc _ = wc; have n0_ : Aside0 (wc.heap[gb101]? = some (.cells #[.int .i64 0, .int .i64 0, .int .u64 0, .string (⟨#[]⟩ : ByteArray)] 95 (0, 0))) := ⟨by rw [← hq_]; exact (bkA BK101)⟩; have n1_ : Aside0 (wc.heap[gb106]? = some (.cells #[.int .i64 (wrap64 (t102 / 8)), .int .i64 (wrap64 (Go.bits .and .u64 t102 7)), .int .u64 0, .string (⟨#[]⟩ : ByteArray)] 95 (0, 0))) := ⟨by rw [← hq_]; exact (bkA BK106)⟩; have n2_ : Aside0 (Below w.heap.size w wc) := ⟨by rw [← hq_]; exact (hbA HB)⟩; clear BK101 BK106 HB hq_; have BK101 := n0_; have BK106 := n1_; have HB := n2_; clear n0_ n1_ n2_)); have hnb22 := NB106_101.out; have hnc22 := NB101_106.out; obtain ⟨hcz23_0, hcz23_1, hcz23_2, hcz23_3⟩ := cz4 BK106; have hfz23_0 := fz BK106 0; have hfz23_1 := fz BK106 1; have hfz23_2 := fz BK106 2; have hfz23_3 := fz BK106 3; obtain ⟨hcz24_0, hcz24_1, hcz24_2, hcz24_3⟩ := cz4 BK101; have hfz24_0 := fz BK101 0; have hfz24_1 := fz BK101 1; have hfz24_2 := fz BK101 2; have hfz24_3 := blk_frozen BK101.out 3))
         refine bodyPost_ret (results_ctt rfl _ _ gb101 95 #[.int .i64 0, .int .i64 0, .int .u64 0, .string (⟨#[]⟩ : ByteArray)] (0, 0) _ rfl (bkW BK101) Tryz.underlying95 rfl (by kernel_rfl)) rfl ?_
         exact ⟨cl3, hbA HB⟩
        ·
         rw [if_neg c21] at H; have c21b0 := decide_eq_false c21; clear c21; obtain ⟨ji25, hji25⟩ : ∃ j_ : Int, (wrap64 (t103 + t108)) = j_ := ⟨_, rfl⟩; replace H : (if 0 ≤ (ji25) then (if (ji25) ≤ (wrap64 ((ji25) + (wrap64 (t107)))) then (if (wrap64 ((ji25) + (wrap64 (t107)))) ≤ (a0.size : Int) then (some ((wrap64 (t102 / 8)), (wrap64 (Go.bits .and .u64 t102 7)), 0, a0.extract ((ji25) : Int).toNat ((wrap64 ((ji25) + (wrap64 (t107)))) : Int).toNat, wrap64 ((ji25) + (wrap64 (t107))), 0)) else (none)) else (none)) else (none)) = some (r1, r2, r3, r4, r5, r6) := by first | (rw [hji25] at H; exact H) | (simp only [hji25] at H ⊢; exact H)
         (try rw [hji25] at c21b0)
         (try rw [hji25] at A15)
         have hji25w : (IntKind.i64.wrap (t103 + t108)) = ji25 := (i64_w _).trans hji25; replace H := ifS H; obtain ⟨c26, H⟩ := H; have c26b0 := eq_true c26; have c26b1 := decide_eq_true c26; clear c26; replace H := ifS H; obtain ⟨c27, H⟩ := H; have c27b0 := eq_true c27; have c27b1 := decide_eq_true c27; replace H := ifS H; obtain ⟨c28, H⟩ := H; have c28b0 := eq_true c28; have c28b1 := decide_eq_true c28
         simp only [Option.some.injEq, Prod.mk.injEq] at H
         obtain ⟨rfl, rfl, rfl, rfl, rfl, rfl⟩ := H
         go_wp2_with (first | ((with_reducible refine gate_callee (f := 97) rfl ?_); refine glE (some 48) rfl rfl Tryz.func97 (by kernel_rfl) rfl #[.string (a0.extract (t103 : Int).toNat a0.size)] rfl ?_; (with_reducible refine (varint_Read.calls (a0.extract (t103 : Int).toNat a0.size) t107 t108 t109 _ A15.out).mono ?_); rintro e w' ⟨rfl, ⟨nd, rfl⟩⟩; refine ⟨_, rfl, ?_⟩; (try (rw [drewN_self wc]; generalize hq_ : World.drewN wc _ = wc; have n0_ : Aside0 (wc.heap[gb101]? = some (.cells #[.int .i64 0, .int .i64 0, .int .u64 0, .string (⟨#[]⟩ : ByteArray)] 95 (0, 0))) := ⟨by rw [← hq_]; exact (bkA BK101)⟩; have n1_ : Aside0 (wc.heap[gb106]? = some (.cells #[.int .i64 (wrap64 (t102 / 8)), .int .i64 (wrap64 (Go.bits .and .u64 t102 7)), .int .u64 0, .string (⟨#[]⟩ : ByteArray)] 95 (0, 0))) := ⟨by rw [← hq_]; exact (bkA BK106)⟩; have n2_ : Aside0 (Below w.heap.size w wc) := ⟨by rw [← hq_]; exact (hbA HB)⟩; clear BK101 BK106 HB hq_; have BK101 := n0_; have BK106 := n1_; have HB := n2_; clear n0_ n1_ n2_)); have hnb29 := NB106_101.out; have hnc29 := NB101_106.out; obtain ⟨hcz30_0, hcz30_1, hcz30_2, hcz30_3⟩ := cz4 BK106; have hfz30_0 := fz BK106 0; have hfz30_1 := fz BK106 1; have hfz30_2 := fz BK106 2; have hfz30_3 := fz BK106 3; obtain ⟨hcz31_0, hcz31_1, hcz31_2, hcz31_3⟩ := cz4 BK101; have hfz31_0 := fz BK101 0; have hfz31_1 := fz BK101 1; have hfz31_2 := fz BK101 2; have hfz31_3 := blk_frozen BK101.out 3))
         refine bodyPost_ret (results_ctt rfl _ _ gb101 95 #[.int .i64 (wrap64 (t102 / 8)), .int .i64 (wrap64 (Go.bits .and .u64 t102 7)), .int .u64 0, .string (a0.extract ((ji25) : Int).toNat ((wrap64 ((ji25) + (wrap64 (t107)))) : Int).toNat)] (0, 0) _ rfl (bkW BK101) Tryz.underlying95 rfl (by kernel_rfl)) rfl ?_
         exact ⟨by first | rfl | (simp [errW_none, errW_some] <;> rfl) | (simp only [← hji25]; first | rfl | (simp [errW_none, errW_some] <;> rfl)) | (simp [*, errW_none, errW_some] <;> rfl), hbA HB⟩
      ·
       rw [if_neg c16] at H; have c16b0 := beq_eq_false_iff_ne.mpr c16; have c16b1 := bne_iff_ne.mpr c16
       simp only [Option.some.injEq, Prod.mk.injEq] at H
       obtain ⟨rfl, rfl, rfl, rfl, rfl, rfl⟩ := H
       go_wp2_with (first | ((with_reducible refine gate_callee (f := 97) rfl ?_); refine glE (some 48) rfl rfl Tryz.func97 (by kernel_rfl) rfl #[.string (a0.extract (t103 : Int).toNat a0.size)] rfl ?_; (with_reducible refine (varint_Read.calls (a0.extract (t103 : Int).toNat a0.size) t107 t108 t109 _ A15.out).mono ?_); rintro e w' ⟨rfl, ⟨nd, rfl⟩⟩; refine ⟨_, rfl, ?_⟩; (try (rw [drewN_self wc]; generalize hq_ : World.drewN wc _ = wc; have n0_ : Aside0 (wc.heap[gb101]? = some (.cells #[.int .i64 0, .int .i64 0, .int .u64 0, .string (⟨#[]⟩ : ByteArray)] 95 (0, 0))) := ⟨by rw [← hq_]; exact (bkA BK101)⟩; have n1_ : Aside0 (wc.heap[gb106]? = some (.cells #[.int .i64 (wrap64 (t102 / 8)), .int .i64 (wrap64 (Go.bits .and .u64 t102 7)), .int .u64 0, .string (⟨#[]⟩ : ByteArray)] 95 (0, 0))) := ⟨by rw [← hq_]; exact (bkA BK106)⟩; have n2_ : Aside0 (Below w.heap.size w wc) := ⟨by rw [← hq_]; exact (hbA HB)⟩; clear BK101 BK106 HB hq_; have BK101 := n0_; have BK106 := n1_; have HB := n2_; clear n0_ n1_ n2_)); have hnb32 := NB101_106.out; have hnc32 := NB106_101.out; obtain ⟨hcz33_0, hcz33_1, hcz33_2, hcz33_3⟩ := cz4 BK101; have hfz33_0 := fz BK101 0; have hfz33_1 := fz BK101 1; have hfz33_2 := fz BK101 2; have hfz33_3 := blk_frozen BK101.out 3))
       refine bodyPost_ret (results_ctt rfl _ _ gb101 95 #[.int .i64 0, .int .i64 0, .int .u64 0, .string (⟨#[]⟩ : ByteArray)] (0, 0) _ rfl (bkW BK101) Tryz.underlying95 rfl (by kernel_rfl)) rfl ?_
       exact ⟨cl3, hbA HB⟩
     ·
      replace c12 := Bool.eq_false_iff.mpr c12; subst c12; have H1 : (if (wrap64 (Go.bits .and .u64 t102 7)) = 5 then (if (wrap64 ((a0.size : Int) - t103)) < 4 then (some (0, 0, 0, (⟨#[]⟩ : ByteArray), 0, 1)) else (if 0 ≤ t103 then (if t103 ≤ (wrap64 (t103 + 4)) then (if (wrap64 (t103 + 4)) ≤ (a0.size : Int) then ((wire_fixed_s.f (a0.extract (t103 : Int).toNat ((wrap64 (t103 + 4)) : Int).toNat)).bind fun t110 => (some ((wrap64 (t102 / 8)), (wrap64 (Go.bits .and .u64 t102 7)), t110, (⟨#[]⟩ : ByteArray), wrap64 (t103 + 4), 0))) else (none)) else (none)) else (none))) else (if (wrap64 ((a0.size : Int) - t103)) < 8 then (some (0, 0, 0, (⟨#[]⟩ : ByteArray), 0, 1)) else (if 0 ≤ t103 then (if t103 ≤ (wrap64 (t103 + 8)) then (if (wrap64 (t103 + 8)) ≤ (a0.size : Int) then ((wire_fixed_s.f (a0.extract (t103 : Int).toNat ((wrap64 (t103 + 8)) : Int).toNat)).bind fun t111 => (some ((wrap64 (t102 / 8)), (wrap64 (Go.bits .and .u64 t102 7)), t111, (⟨#[]⟩ : ByteArray), wrap64 (t103 + 8), 0))) else (none)) else (none)) else (none)))) = some (r1, r2, r3, r4, r5, r6) := by rw [if_neg (show ¬ (false = true) by decide)] at H; exact H
      clear H; have H := H1; clear H1
      by_cases c34 : (wrap64 (Go.bits .and .u64 t102 7)) = 5
      ·
       rw [if_pos c34] at H; have c34b0 := beq_iff_eq.mpr c34; have c34b1 := bne_eq_false_iff_eq.mpr c34; clear c34
       by_cases c35 : (wrap64 ((a0.size : Int) - t103)) < 4
       ·
        rw [if_pos c35] at H; have c35b0 := decide_eq_true c35; clear c35
        simp only [Option.some.injEq, Prod.mk.injEq] at H
        obtain ⟨rfl, rfl, rfl, rfl, rfl, rfl⟩ := H; have hnb36 := NB101_106.out; have hnc36 := NB106_101.out; obtain ⟨hcz37_0, hcz37_1, hcz37_2, hcz37_3⟩ := cz4 BK101; have hfz37_0 := fz BK101 0; have hfz37_1 := fz BK101 1; have hfz37_2 := fz BK101 2; have hfz37_3 := fz BK101 3
        go_wp2
        refine bodyPost_ret (results_ctt rfl _ _ gb101 95 #[.int .i64 0, .int .i64 0, .int .u64 0, .string (⟨#[]⟩ : ByteArray)] (0, 0) _ rfl (bkW BK101) Tryz.underlying95 rfl (by kernel_rfl)) rfl ?_
        exact ⟨cl3, hbA HB⟩
       ·
        rw [if_neg c35] at H; have c35b0 := decide_eq_false c35; clear c35; replace H := ifS H; obtain ⟨c38, H⟩ := H; have c38b0 := eq_true c38; have c38b1 := decide_eq_true c38; clear c38; replace H := ifS H; obtain ⟨c39, H⟩ := H; have c39b0 := eq_true c39; have c39b1 := decide_eq_true c39; replace H := ifS H; obtain ⟨c40, H⟩ := H; have c40b0 := eq_true c40; have c40b1 := decide_eq_true c40; replace H := bnd H; obtain ⟨t110, A41, H⟩ := H
        simp only [Option.some.injEq, Prod.mk.injEq] at H
        obtain ⟨rfl, rfl, rfl, rfl, rfl, rfl⟩ := H
        go_wp2_with (first | ((with_reducible refine gate_callee (f := 100) rfl ?_); refine glE (some 102) rfl rfl Tryz.func100 (by kernel_rfl) rfl #[.string (a0.extract (t103 : Int).toNat ((wrap64 (t103 + 4)) : Int).toNat)] rfl ?_; (with_reducible refine (wire_fixed_s.calls (a0.extract (t103 : Int).toNat ((wrap64 (t103 + 4)) : Int).toNat) t110 _ A41.out).mono ?_); rintro e w' ⟨rfl, ⟨nd, rfl⟩⟩; refine ⟨_, rfl, ?_⟩; (try (rw [drewN_self wc]; generalize hq_ : World.drewN wc _ = wc; have n0_ : Aside0 (wc.heap[gb101]? = some (.cells #[.int .i64 0, .int .i64 0, .int .u64 0, .string (⟨#[]⟩ : ByteArray)] 95 (0, 0))) := ⟨by rw [← hq_]; exact (bkA BK101)⟩; have n1_ : Aside0 (wc.heap[gb106]? = some (.cells #[.int .i64 (wrap64 (t102 / 8)), .int .i64 (wrap64 (Go.bits .and .u64 t102 7)), .int .u64 0, .string (⟨#[]⟩ : ByteArray)] 95 (0, 0))) := ⟨by rw [← hq_]; exact (bkA BK106)⟩; have n2_ : Aside0 (Below w.heap.size w wc) := ⟨by rw [← hq_]; exact (hbA HB)⟩; clear BK101 BK106 HB hq_; have BK101 := n0_; have BK106 := n1_; have HB := n2_; clear n0_ n1_ n2_)); have hnb42 := NB106_101.out; have hnc42 := NB101_106.out; obtain ⟨hcz43_0, hcz43_1, hcz43_2, hcz43_3⟩ := cz4 BK106; have hfz43_0 := fz BK106 0; have hfz43_1 := fz BK106 1; have hfz43_2 := fz BK106 2; have hfz43_3 := fz BK106 3; obtain ⟨hcz44_0, hcz44_1, hcz44_2, hcz44_3⟩ := cz4 BK101; have hfz44_0 := fz BK101 0; have hfz44_1 := fz BK101 1; have hfz44_2 := fz BK101 2; have hfz44_3 := blk_frozen BK101.out 3))
        refine bodyPost_ret (results_ctt rfl _ _ gb101 95 #[.int .i64 (wrap64 (t102 / 8)), .int .i64 (wrap64 (Go.bits .and .u64 t102 7)), .int .u64 t110, .string (⟨#[]⟩ : ByteArray)] (0, 0) _ rfl (bkW BK101) Tryz.underlying95 rfl (by kernel_rfl)) rfl ?_
        exact ⟨cl3, hbA HB⟩
      ·
       rw [if_neg c34] at H; have c34b0 := beq_eq_false_iff_ne.mpr c34; have c34b1 := bne_iff_ne.mpr c34
       by_cases c45 : (wrap64 ((a0.size : Int) - t103)) < 8
       ·
        rw [if_pos c45] at H; have c45b0 := decide_eq_true c45; clear c45
        simp only [Option.some.injEq, Prod.mk.injEq] at H
        obtain ⟨rfl, rfl, rfl, rfl, rfl, rfl⟩ := H; have hnb46 := NB101_106.out; have hnc46 := NB106_101.out; obtain ⟨hcz47_0, hcz47_1, hcz47_2, hcz47_3⟩ := cz4 BK101; have hfz47_0 := fz BK101 0; have hfz47_1 := fz BK101 1; have hfz47_2 := fz BK101 2; have hfz47_3 := fz BK101 3
        go_wp2
        refine bodyPost_ret (results_ctt rfl _ _ gb101 95 #[.int .i64 0, .int .i64 0, .int .u64 0, .string (⟨#[]⟩ : ByteArray)] (0, 0) _ rfl (bkW BK101) Tryz.underlying95 rfl (by kernel_rfl)) rfl ?_
        exact ⟨cl3, hbA HB⟩
       ·
        rw [if_neg c45] at H; have c45b0 := decide_eq_false c45; clear c45; replace H := ifS H; obtain ⟨c48, H⟩ := H; have c48b0 := eq_true c48; have c48b1 := decide_eq_true c48; clear c48; replace H := ifS H; obtain ⟨c49, H⟩ := H; have c49b0 := eq_true c49; have c49b1 := decide_eq_true c49; replace H := ifS H; obtain ⟨c50, H⟩ := H; have c50b0 := eq_true c50; have c50b1 := decide_eq_true c50; replace H := bnd H; obtain ⟨t111, A51, H⟩ := H
        simp only [Option.some.injEq, Prod.mk.injEq] at H
        obtain ⟨rfl, rfl, rfl, rfl, rfl, rfl⟩ := H
        go_wp2_with (first | ((with_reducible refine gate_callee (f := 100) rfl ?_); refine glE (some 102) rfl rfl Tryz.func100 (by kernel_rfl) rfl #[.string (a0.extract (t103 : Int).toNat ((wrap64 (t103 + 8)) : Int).toNat)] rfl ?_; (with_reducible refine (wire_fixed_s.calls (a0.extract (t103 : Int).toNat ((wrap64 (t103 + 8)) : Int).toNat) t111 _ A51.out).mono ?_); rintro e w' ⟨rfl, ⟨nd, rfl⟩⟩; refine ⟨_, rfl, ?_⟩; (try (rw [drewN_self wc]; generalize hq_ : World.drewN wc _ = wc; have n0_ : Aside0 (wc.heap[gb101]? = some (.cells #[.int .i64 0, .int .i64 0, .int .u64 0, .string (⟨#[]⟩ : ByteArray)] 95 (0, 0))) := ⟨by rw [← hq_]; exact (bkA BK101)⟩; have n1_ : Aside0 (wc.heap[gb106]? = some (.cells #[.int .i64 (wrap64 (t102 / 8)), .int .i64 (wrap64 (Go.bits .and .u64 t102 7)), .int .u64 0, .string (⟨#[]⟩ : ByteArray)] 95 (0, 0))) := ⟨by rw [← hq_]; exact (bkA BK106)⟩; have n2_ : Aside0 (Below w.heap.size w wc) := ⟨by rw [← hq_]; exact (hbA HB)⟩; clear BK101 BK106 HB hq_; have BK101 := n0_; have BK106 := n1_; have HB := n2_; clear n0_ n1_ n2_)); have hnb52 := NB106_101.out; have hnc52 := NB101_106.out; obtain ⟨hcz53_0, hcz53_1, hcz53_2, hcz53_3⟩ := cz4 BK106; have hfz53_0 := fz BK106 0; have hfz53_1 := fz BK106 1; have hfz53_2 := fz BK106 2; have hfz53_3 := fz BK106 3; obtain ⟨hcz54_0, hcz54_1, hcz54_2, hcz54_3⟩ := cz4 BK101; have hfz54_0 := fz BK101 0; have hfz54_1 := fz BK101 1; have hfz54_2 := fz BK101 2; have hfz54_3 := blk_frozen BK101.out 3))
        refine bodyPost_ret (results_ctt rfl _ _ gb101 95 #[.int .i64 (wrap64 (t102 / 8)), .int .i64 (wrap64 (Go.bits .and .u64 t102 7)), .int .u64 t111, .string (⟨#[]⟩ : ByteArray)] (0, 0) _ rfl (bkW BK101) Tryz.underlying95 rfl (by kernel_rfl)) rfl ?_
        exact ⟨cl3, hbA HB⟩
  ·
   replace c5 := Bool.eq_false_iff.mpr c5; subst c5; have H1 : (some (0, 0, 0, (⟨#[]⟩ : ByteArray), 0, 3)) = some (r1, r2, r3, r4, r5, r6) := by rw [if_neg (show ¬ (false = true) by decide)] at H; exact H
   clear H; have H := H1; clear H1
   simp only [Option.some.injEq, Prod.mk.injEq] at H
   obtain ⟨rfl, rfl, rfl, rfl, rfl, rfl⟩ := H
   go_enter Tryz.func88, Tryz.ntmps88
   go_wp2_with (first | ((with_reducible refine gate_dst (N := 2) rfl ?_); refine boxE (N := 2) (cs := #[.int .i64 0, .int .i64 0, .int .u64 0, .string (⟨#[]⟩ : ByteArray)]) (t := 95) ?_; intro gb101 hg w55 hbox hb; have BK101 := mk0 hbox; have GW101 := gwS HB hg; have GE101 := gwS HB hg; replace HB := hbS HB hb; clear hb hbox hg) | ((with_reducible refine gate_callee (f := 97) rfl ?_); refine glE (some 15) rfl rfl Tryz.func97 (by kernel_rfl) rfl #[.string a0] rfl ?_; (with_reducible refine (varint_Read.calls a0 t102 t103 t104 _ A2.out).mono ?_); rintro e w' ⟨rfl, ⟨nd, rfl⟩⟩; refine ⟨_, rfl, ?_⟩; (try (rw [drewN_self w55]; generalize hq_ : World.drewN w55 _ = w55; have n0_ : Aside0 (w55.heap[gb101]? = some (.cells #[.int .i64 0, .int .i64 0, .int .u64 0, .string (⟨#[]⟩ : ByteArray)] 95 (0, 0))) := ⟨by rw [← hq_]; exact (bkA BK101)⟩; have n1_ : Aside0 (Below w.heap.size w w55) := ⟨by rw [← hq_]; exact (hbA HB)⟩; clear BK101 HB hq_; have BK101 := n0_; have HB := n1_; clear n0_ n1_))) | ((with_reducible refine gate_callee (f := 93) rfl ?_); refine glE (some 29) rfl rfl Tryz.func93 (by kernel_rfl) rfl #[.int .u64 (t102 / 8), .int .u64 (Go.bits .and .u64 t102 7)] rfl ?_; (with_reducible refine (wire_may.calls (t102 / 8) (Go.bits .and .u64 t102 7) false _ A4.out).mono ?_); rintro e w' ⟨rfl, ⟨nd, rfl⟩⟩; refine ⟨_, rfl, ?_⟩; (try (rw [drewN_self w55]; generalize hq_ : World.drewN w55 _ = w55; have n0_ : Aside0 (w55.heap[gb101]? = some (.cells #[.int .i64 0, .int .i64 0, .int .u64 0, .string (⟨#[]⟩ : ByteArray)] 95 (0, 0))) := ⟨by rw [← hq_]; exact (bkA BK101)⟩; have n1_ : Aside0 (Below w.heap.size w w55) := ⟨by rw [← hq_]; exact (hbA HB)⟩; clear BK101 HB hq_; have BK101 := n0_; have HB := n1_; clear n0_ n1_)); obtain ⟨hcz56_0, hcz56_1, hcz56_2, hcz56_3⟩ := cz4 BK101; have hfz56_0 := fz BK101 0; have hfz56_1 := fz BK101 1; have hfz56_2 := fz BK101 2; have hfz56_3 := blk_frozen BK101.out 3))
   refine bodyPost_ret (results_ctt rfl _ _ gb101 95 #[.int .i64 0, .int .i64 0, .int .u64 0, .string (⟨#[]⟩ : ByteArray)] (0, 0) _ rfl (bkW BK101) Tryz.underlying95 rfl (by kernel_rfl)) rfl ?_
   exact ⟨cl3, hbA HB⟩
 ·
  rw [if_neg c3] at H; have c3b0 := beq_eq_false_iff_ne.mpr c3; have c3b1 := bne_iff_ne.mpr c3
  simp only [Option.some.injEq, Prod.mk.injEq] at H
  obtain ⟨rfl, rfl, rfl, rfl, rfl, rfl⟩ := H
  go_enter Tryz.func88, Tryz.ntmps88
  go_wp2_with (first | ((with_reducible refine gate_dst (N := 2) rfl ?_); refine boxE (N := 2) (cs := #[.int .i64 0, .int .i64 0, .int .u64 0, .string (⟨#[]⟩ : ByteArray)]) (t := 95) ?_; intro gb101 hg w57 hbox hb; have BK101 := mk0 hbox; have GW101 := gwS HB hg; have GE101 := gwS HB hg; replace HB := hbS HB hb; clear hb hbox hg) | ((with_reducible refine gate_callee (f := 97) rfl ?_); refine glE (some 15) rfl rfl Tryz.func97 (by kernel_rfl) rfl #[.string a0] rfl ?_; (with_reducible refine (varint_Read.calls a0 t102 t103 t104 _ A2.out).mono ?_); rintro e w' ⟨rfl, ⟨nd, rfl⟩⟩; refine ⟨_, rfl, ?_⟩; (try (rw [drewN_self w57]; generalize hq_ : World.drewN w57 _ = w57; have n0_ : Aside0 (w57.heap[gb101]? = some (.cells #[.int .i64 0, .int .i64 0, .int .u64 0, .string (⟨#[]⟩ : ByteArray)] 95 (0, 0))) := ⟨by rw [← hq_]; exact (bkA BK101)⟩; have n1_ : Aside0 (Below w.heap.size w w57) := ⟨by rw [← hq_]; exact (hbA HB)⟩; clear BK101 HB hq_; have BK101 := n0_; have HB := n1_; clear n0_ n1_)); obtain ⟨hcz58_0, hcz58_1, hcz58_2, hcz58_3⟩ := cz4 BK101; have hfz58_0 := fz BK101 0; have hfz58_1 := fz BK101 1; have hfz58_2 := fz BK101 2; have hfz58_3 := blk_frozen BK101.out 3))
  refine bodyPost_ret (results_ctt rfl _ _ gb101 95 #[.int .i64 0, .int .i64 0, .int .u64 0, .string (⟨#[]⟩ : ByteArray)] (0, 0) _ rfl (bkW BK101) Tryz.underlying95 rfl (by kernel_rfl)) rfl ?_
  exact ⟨cl3, hbA HB⟩
end Go.Proofs.YtgmggompdidcoaaGreatDoor.X
