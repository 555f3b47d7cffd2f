import Derived.Test.YtohddbiedabmhaaMPackBack0
import Derived.Test.YtohddbiedabmhaaMPackBack10
import Derived.Test.YtohddbiedabmhaaMPackBack9
import Derived.Test.YtohddbiedabmhaaMPackBack3
import Derived.Test.YtohddbiedabmhaaMPackBack2
import Derived.Test.YtohddbiedabmhaaMPackBack7
import Derived.Test.YtohddbiedabmhaaMPackBack8
-- by xprint.py, a program of this session, over the kit's print.py
namespace Go.Proofs.Ytohddbiedabmhaa.X
open Go.RowKit Go.Proofs.YtohddbiedabmhaaW.PrintWords Go.Proofs.YtohddbiedabmhaaW.PrintLast Go.Proofs.YtohddbiedabmhaaW.PrintMore
attribute [local go_sem] max2_int min2_int max_two min_two max_three min_three max_four min_four   -- for this text's walks alone
set_option linter.unusedVariables false
set_option linter.unusedSimpArgs false

theorem rdP (l : List (S47)) (i : Nat) (h : i < l.length) : rd_T47 l (i : Int) = l[i] := by
  simp [rd_T47, List.getD_eq_getElem?_getD, h]
theorem rdR (l : List (S50)) (i : Nat) (h : i < l.length) : rd_T50 l (i : Int) = l[i] := by
  simp [rd_T50, List.getD_eq_getElem?_getD, h]

end Go.Proofs.Ytohddbiedabmhaa.X
-- by xprint.py, a program of this session, over the kit's print.py
namespace Go.Proofs.Ytohddbiedabmhaa.X
open Go.RowKit Go.Proofs.YtohddbiedabmhaaW.PrintWords Go.Proofs.YtohddbiedabmhaaW.PrintLast Go.Proofs.YtohddbiedabmhaaW.PrintMore
attribute [local go_sem] max2_int min2_int max_two min_two max_three min_three max_four min_four   -- for this text's walks alone
set_option linter.unusedVariables false
set_option linter.unusedSimpArgs false

def pack_Ints_s.f (l0 : List (S47)) (a1 : Int) : Option (List Int × Int) := if l0.length ≤ 3518437208883 ∧ ∀ x ∈ l0, x.f3.size ≤ 140737488351232 then some ((intsL ((l0.filter fun x => x.f0 == a1).map flP) []).1, ((intsL ((l0.filter fun x => x.f0 == a1).map flP) []).2 : Int)) else none
theorem pack_Ints_eval (l : List (S47)) (hl : l.length ≤ 3518437208883) (hs : ∀ x ∈ l, x.f3.size ≤ 140737488351232) (d : Nat) : ∀ (k i : Nat) (out : List Int), l.length - i = d → i ≤ l.length → out.length ≤ 65536 → d < k →
    pack_Ints.l0 k out l l.length i = some ((intsL ((l.drop i).map flP) out).1, ((intsL ((l.drop i).map flP) out).2 : Int)) := by
  induction d with
  | zero =>
    intro k i out hd hi ho hk
    obtain ⟨k, rfl⟩ : ∃ m, k = m + 1 := ⟨k - 1, by omega⟩
    simp only [pack_Ints.l0]
    rw [if_neg (by omega), List.drop_of_length_le (by omega)]
    rfl
  | succ d ih =>
    intro k i out hd hi ho hk
    obtain ⟨k, rfl⟩ : ∃ m, k = m + 1 := ⟨k - 1, by omega⟩
    have h0 : i < l.length := by omega
    simp only [pack_Ints.l0, rdP l i h0]
    have hsx := hs l[i] (List.getElem_mem _)
    have ew : wrap64 ((i : Int) + 1) = ((i + 1 : Nat) : Int) := by rw [wrap64_id (by omega) (by omega)]; omega
    rw [if_pos (by omega), if_pos (by omega), if_pos (by omega), List.drop_eq_getElem_cons h0, List.map_cons, ew]
    clear ew
    generalize l[i] = x at *
    rw [intsL]
    by_cases t0 : x.f1 = 0
    · rw [if_pos t0, if_pos (show (flP x).2.1 = 0 from t0)]
      by_cases hf : 65536 ≤ out.length
      · rw [if_pos (by omega), if_pos hf]; rfl
      · rw [if_neg (by omega), if_neg hf, if_pos (by omega)]
        exact ih k (i + 1) _ (by omega) (by omega) (by simp; omega) (by omega)
    · rw [if_neg t0, if_neg (show ¬ (flP x).2.1 = 0 from t0)]
      by_cases t2 : x.f1 = 2
      · have e : pack_packed_s.f out x.f3 = some ((packedF x.f3.size out x.f3).1, ((packedF x.f3.size out x.f3).2 : Int)) := if_pos ⟨hsx, ho⟩
        rw [if_pos t2, if_pos (show (flP x).2.1 = 2 from t2), e, Option.bind_some]
        show (if ((packedF x.f3.size out x.f3).2 : Int) = 0 then _ else _) = some ((if (packedF x.f3.size out x.f3).2 ≠ 0 then ([], (packedF x.f3.size out x.f3).2) else intsL ((l.drop (i + 1)).map flP) (packedF x.f3.size out x.f3).1).1, _)
        have hp := packedF_len x.f3.size out x.f3 ho
        have hcv : (flP x).2.2.2 = x.f3 := rfl
        simp only [hcv]
        by_cases hz : (packedF x.f3.size out x.f3).2 = 0
        · rw [if_pos (by omega), if_neg (fun h => h hz)]
          exact ih k (i + 1) _ (by omega) (by omega) hp (by omega)
        · rw [if_neg (by omega), if_pos hz]
      · rw [if_neg t2, if_neg (show ¬ (flP x).2.1 = 2 from t2)]
        rfl
theorem pack_Ints_s.ev (l0 : List (S47)) (a1 : Int) (r) (h : pack_Ints_s.f l0 a1 = some r) : ∃ k, pack_Ints.f k l0 a1 = some r := by
  unfold pack_Ints_s.f at h
  split at h
  · rename_i hs
    rw [← h]
    have e : wire_All_s.f l0 a1 = some (l0.filter fun x => x.f0 == a1) := if_pos hs.1
    have hle : (l0.filter fun x => x.f0 == a1).length ≤ l0.length := List.length_filter_le _ _
    refine ⟨(l0.filter fun x => x.f0 == a1).length + 1, ?_⟩
    unfold pack_Ints.f
    rw [e, Option.bind_some]
    have := pack_Ints_eval (l0.filter fun x => x.f0 == a1) (by omega) (fun x hx => hs.2 x (List.mem_filter.1 hx).1) _ ((l0.filter fun x => x.f0 == a1).length + 1) 0 [] rfl (by omega) (by simp) (by omega)
    simpa using this
  · cases h

set_option maxHeartbeats 1000000 in
theorem pack_Ints_s.calls (A0 : Option Addr) (c0 : Nat) (l0 : List (S47)) (a1 : Int) (r1 : List Int) (r2 : Int) (w : World) (hr0 : Kd.C k47 w A0 l0.length l0) (hc0 : l0.length ≤ c0) (h : pack_Ints_s.f l0 a1 = some (r1, r2)) :
    Calls Try.prog 33 #[.slice A0 l0.length c0, .int .i64 a1] w fun e w' => ∃ v0_ : Value, e = .returned (.tuple #[v0_, .int .i64 r2]) ∧ Kd.R (Kd.int .i64) 2 w' w.heap.size (fun _ => True) v0_ r1 ∧ Below w.heap.size w w' := by
  obtain ⟨k, hk⟩ := pack_Ints_s.ev l0 a1 _ h
  exact pack_Ints.calls k A0 c0 l0 a1 r1 r2 w hr0 hc0 hk

end Go.Proofs.Ytohddbiedabmhaa.X
-- by xprint.py, a program of this session, over the kit's print.py
namespace Go.Proofs.Ytohddbiedabmhaa.X
open Go.RowKit Go.Proofs.YtohddbiedabmhaaW.PrintWords Go.Proofs.YtohddbiedabmhaaW.PrintLast Go.Proofs.YtohddbiedabmhaaW.PrintMore
attribute [local go_sem] max2_int min2_int max_two min_two max_three min_three max_four min_four   -- for this text's walks alone
set_option linter.unusedVariables false
set_option linter.unusedSimpArgs false

/-! ### agatelaw03_Awake: function 34 -/
def agatelaw03_Awake.f  : Option (Bool) := (pack_Ints_s.f (([(⟨1, 2, 0, (⟨#[1, 255, 255, 255, 255, 255, 255, 255, 255, 255, 1]⟩ : ByteArray)⟩ : S47), (⟨1, 0, 5, (⟨#[]⟩ : ByteArray)⟩ : S47)] : List (S47))) 1).bind fun bt104 => ((agatelaw02_Awake_s.f).bind fun t108 => (if t108 = true then (if bt104.2 = 0 then ((agatelaw03_Ints_s.f bt104.1 (([1, (-1), 5] : List Int))).bind fun t112 => (some t112)) else (some false)) else (some false)))
set_option maxHeartbeats 8000000 in
set_option maxRecDepth 100000 in
theorem agatelaw03_Awake.calls  (r : Bool) (w : World) (h : agatelaw03_Awake.f  = some r) :
    Calls Try.prog 34 #[] w fun e w' => e = .returned (.bool r) ∧ Below w.heap.size w w' := by
  have hu47 := Try.underlying47
  have HB := Aside0.mk (Below.refl w.heap.size w)
  have H : ((pack_Ints_s.f (([(⟨1, 2, 0, (⟨#[1, 255, 255, 255, 255, 255, 255, 255, 255, 255, 1]⟩ : ByteArray)⟩ : S47), (⟨1, 0, 5, (⟨#[]⟩ : ByteArray)⟩ : S47)] : List (S47))) 1).bind fun bt104 => ((agatelaw02_Awake_s.f).bind fun t108 => (if t108 = true then (if bt104.2 = 0 then ((agatelaw03_Ints_s.f bt104.1 (([1, (-1), 5] : List Int))).bind fun t112 => (some t112)) else (some false)) else (some false)))) = some r := h
  clear h
  obtain ⟨y101, hy101⟩ : ∃ y_ : List (S47), y_ = (([(⟨1, 2, 0, (⟨#[1, 255, 255, 255, 255, 255, 255, 255, 255, 255, 1]⟩ : ByteArray)⟩ : S47), (⟨1, 0, 5, (⟨#[]⟩ : ByteArray)⟩ : S47)] : List (S47))) := ⟨_, rfl⟩
  replace H : ((pack_Ints_s.f y101 1).bind fun bt104 => ((agatelaw02_Awake_s.f).bind fun t108 => (if t108 = true then (if bt104.2 = 0 then ((agatelaw03_Ints_s.f bt104.1 (([1, (-1), 5] : List Int))).bind fun t112 => (some t112)) else (some false)) else (some false)))) = some r := by first | (rw [hy101]; with_reducible exact H) | (have H2_ := (Option.bind_some _ _).symm.trans H; rw [hy101]; with_reducible exact H2_) | (have H2_ := (Option.bind_some _ _).symm.trans H; with_reducible exact H2_) | with_reducible exact H | (rw [hy101]; exact H) | exact H
  have Ny101 := Aside0.mk hy101
  clear hy101
  replace H := Option.bind_eq_some_iff.mp H
  obtain ⟨⟨t104, t105⟩, A10, H⟩ := H
  replace H : ((agatelaw02_Awake_s.f).bind fun t108 => (if t108 = true then (if t105 = 0 then ((agatelaw03_Ints_s.f t104 (([1, (-1), 5] : List Int))).bind fun t112 => (some t112)) else (some false)) else (some false))) = some r := H
  have A1 := Aside0.mk A10
  clear A10
  replace H := Option.bind_eq_some_iff.mp H
  obtain ⟨t108, A20, H⟩ := H
  replace H : (if t108 = true then (if t105 = 0 then ((agatelaw03_Ints_s.f t104 (([1, (-1), 5] : List Int))).bind fun t112 => (some t112)) else (some false)) else (some false)) = some r := H
  have A2 := Aside0.mk A20
  clear A20
  by_cases c3 : t108 = true
  · subst c3
    have H1 : (if t105 = 0 then ((agatelaw03_Ints_s.f t104 (([1, (-1), 5] : List Int))).bind fun t112 => (some t112)) else (some false)) = some r := by rw [if_pos rfl] at H; exact H
    clear H
    have H := H1
    clear H1
    by_cases c4 : t105 = 0
    · rw [if_pos c4] at H
      have c4b0 : (t105 == 0) = true := beq_iff_eq.mpr c4
      have c4b1 : (t105 != 0) = false := bne_eq_false_iff_eq.mpr c4
      clear c4
      obtain ⟨y109, hy109⟩ : ∃ y_ : List Int, y_ = (([1, (-1), 5] : List Int)) := ⟨_, rfl⟩
      replace H : ((agatelaw03_Ints_s.f t104 y109).bind fun t112 => (some t112)) = some r := by first | (rw [hy109]; with_reducible exact H) | (have H2_ := (Option.bind_some _ _).symm.trans H; rw [hy109]; with_reducible exact H2_) | (have H2_ := (Option.bind_some _ _).symm.trans H; with_reducible exact H2_) | with_reducible exact H | (rw [hy109]; exact H) | exact H
      have Ny109 := Aside0.mk hy109
      clear hy109
      replace H := Option.bind_eq_some_iff.mp H
      obtain ⟨t112, A50, H⟩ := H
      replace H : (some t112) = some r := H
      have A5 := Aside0.mk A50
      clear A50
      obtain rfl := Option.some.inj H
      go_enter Try.func34, Try.ntmps34
      go_wp2_with (first | ((with_reducible refine gate_dst (N := 6) rfl ?_); (try (refine gate_guard (by rfl) ?_; dsimp only)); refine Kd.R_lit k47 _ 47 ?hg (N := 6) ?hd (xs := ([(⟨1, 2, 0, (⟨#[1, 255, 255, 255, 255, 255, 255, 255, 255, 255, 1]⟩ : ByteArray)⟩ : S47), (⟨1, 0, 5, (⟨#[]⟩ : ByteArray)⟩ : S47)] : List (S47))) (inner := [.int .i64 1, .int .i64 2, .int .u64 0, .string (⟨#[1, 255, 255, 255, 255, 255, 255, 255, 255, 255, 1]⟩ : ByteArray), .int .i64 1, .int .i64 0, .int .u64 5, .string (⟨#[]⟩ : ByteArray)]) (ok := fun _ => True) (okp := fun _ => True) ?hr ?hp (fun _ hk => hk) trivial (Below.refl _ _) (Nat.le_refl _) (by simp) ?_; (case hd => rfl); (case hg => rfl); (case hr => first | (go_simp; done) | (go_simp; rfl)); (case hp => exact (Reps.c4 (show Kd.M k47 _ _ _ (⟨1, 2, 0, (⟨#[1, 255, 255, 255, 255, 255, 255, 255, 255, 255, 1]⟩ : ByteArray)⟩ : S47) [.int .i64 1, .int .i64 2, .int .u64 0, .string (⟨#[1, 255, 255, 255, 255, 255, 255, 255, 255, 255, 1]⟩ : ByteArray)] from (k47_mkM _ _ _ (⟨1, 2, 0, (⟨#[1, 255, 255, 255, 255, 255, 255, 255, 255, 255, 1]⟩ : ByteArray)⟩ : S47) )) (Reps.c4 (show Kd.M k47 _ _ _ (⟨1, 0, 5, (⟨#[]⟩ : ByteArray)⟩ : S47) [.int .i64 1, .int .i64 0, .int .u64 5, .string (⟨#[]⟩ : ByteArray)] from (k47_mkM _ _ _ (⟨1, 0, 5, (⟨#[]⟩ : ByteArray)⟩ : S47) )) (Reps.none _ _)))); intro v102 w6 ho7 hb hg_ hnew_; clear hg_ hnew_; (first | rw [← Ny101.out] at ho7 | (simp only [Int.reduceToNat] at ho7; rw [← Ny101.out] at ho7)); have n0_ := Aside0.mk (Kd.R_lower ho7 (below_size (by repeat (first | (with_reducible first | exact HB.out | apply below_alloc | apply pw_below_drewN | apply below_drew1) | exact HB.out)))); have n1_ := Aside0.mk (below_step (by repeat (first | (with_reducible first | exact HB.out | apply below_alloc | apply pw_below_drewN | apply below_drew1) | exact HB.out)) hb); clear HB; have HO103 := n0_; have HB := n1_; clear n0_ n1_; clear hb ho7; obtain ⟨Ao8, co8, eo8⟩ := Kd.R_slice HO103.out; subst eo8) | ((with_reducible refine gate_callee (f := 33) rfl ?_); refine goesL_ (some 7) rfl rfl Try.func33 (by kernel_rfl) rfl #[.slice Ao8 y101.length co8, .int .i64 1] rfl (by (try simp only [List.map_toArray, List.map_cons, List.map_nil]); first | done | rfl | (simp only [List.length_drop, List.length_take]; rfl)) ?_; (with_reducible refine (pack_Ints_s.calls _ _ y101 1 t104 t105 _ ?side1 ?side2 A1.out).mono ?_); (case side1 => repeat (first | exact (Kd.R_reads' HO103.out).2.2 | (with_reducible refine Kd.C_alloc ?_ _) | (with_reducible refine Kd.C_drewN ?_ _) | (with_reducible refine Kd.C_drew ?_))); (case side2 => exact (Kd.R_reads' HO103.out).2.1); rintro e w9 ⟨v106, rfl, ho0, hb⟩; refine ⟨_, rfl, ?_⟩; have n0_ := Aside0.mk (Kd.R_below (by (with_reducible repeat (first | apply Kd.R_alloc | apply Kd.R_drewN | apply Kd.R_drew)); exact HO103.out) hb); have n1_ := Aside0.mk (Kd.R_lower ho0 (below_size (by repeat (first | (with_reducible first | exact HB.out | apply below_alloc | apply pw_below_drewN | apply below_drew1) | exact HB.out)))); have n2_ := Aside0.mk (below_step (by repeat (first | (with_reducible first | exact HB.out | apply below_alloc | apply pw_below_drewN | apply below_drew1) | exact HB.out)) hb); clear HO103; clear HB; have HO103 := n0_; have HO107 := n1_; have HB := n2_; clear n0_ n1_ n2_; (try clear hb); (try clear hb2); (try clear hk); (try clear hi); (try clear ho0)) | ((with_reducible refine gate_callee (f := 20) rfl ?_); refine goesL_ (some 10) rfl rfl Try.func20 (by kernel_rfl) rfl #[] rfl (by (try simp only [List.map_toArray, List.map_cons, List.map_nil]); first | done | rfl | (simp only [List.length_drop, List.length_take]; rfl)) ?_; (with_reducible refine (agatelaw02_Awake_s.calls  true _ A2.out).mono ?_); rintro e w10 ⟨rfl, hb⟩; refine ⟨_, rfl, ?_⟩; have n0_ := Aside0.mk (Kd.R_below (by (with_reducible repeat (first | apply Kd.R_alloc | apply Kd.R_drewN | apply Kd.R_drew)); exact HO103.out) hb); have n1_ := Aside0.mk (Kd.R_below (by (with_reducible repeat (first | apply Kd.R_alloc | apply Kd.R_drewN | apply Kd.R_drew)); exact HO107.out) hb); have n2_ := Aside0.mk (below_step (by repeat (first | (with_reducible first | exact HB.out | apply below_alloc | apply pw_below_drewN | apply below_drew1) | exact HB.out)) hb); clear HO103; clear HO107; clear HB; have HO103 := n0_; have HO107 := n1_; have HB := n2_; clear n0_ n1_ n2_; (try clear hb); (try clear hb2); (try clear hk); (try clear hi)) | ((with_reducible refine gate_dst (N := 17) rfl ?_); (try (refine gate_guard (by rfl) ?_; dsimp only)); refine Kd.R_lit (Kd.int .i64) _ 2 ?hg (N := 17) ?hd (xs := ([1, (-1), 5] : List Int)) (inner := [.int .i64 1, .int .i64 (-1), .int .i64 5]) (ok := fun _ => True) (okp := fun _ => True) ?hr ?hp (fun _ hk => hk) trivial (Below.refl _ _) (Nat.le_refl _) (by simp) ?_; (case hd => rfl); (case hg => rfl); (case hr => first | (go_simp; done) | (go_simp; rfl)); (case hp => exact (Reps.one (show Kd.M (Kd.int .i64) _ _ _ 1 [.int .i64 1] from rfl) (Reps.one (show Kd.M (Kd.int .i64) _ _ _ (-1) [.int .i64 (-1)] from rfl) (Reps.one (show Kd.M (Kd.int .i64) _ _ _ 5 [.int .i64 5] from rfl) (Reps.none _ _))))); intro v110 w11 ho12 hb hg_ hnew_; clear hg_ hnew_; (first | rw [← Ny109.out] at ho12 | (simp only [Int.reduceToNat] at ho12; rw [← Ny109.out] at ho12)); have n0_ := Aside0.mk (Kd.R_below (by (with_reducible repeat (first | apply Kd.R_alloc | apply Kd.R_drewN | apply Kd.R_drew)); exact HO103.out) hb); have n1_ := Aside0.mk (Kd.R_elder' (by (with_reducible repeat (first | apply Kd.R_alloc | apply Kd.R_drewN | apply Kd.R_drew)); exact HO107.out) (Kd.R_base ho12) hb); have n2_ := Aside0.mk (Kd.R_lower (Kd.R_new' ho12 (Kd.R_lt (by (with_reducible repeat (first | apply Kd.R_alloc | apply Kd.R_drewN | apply Kd.R_drew)); exact HO107.out))) (below_size (by repeat (first | (with_reducible first | exact HB.out | apply below_alloc | apply pw_below_drewN | apply below_drew1) | exact HB.out)))); have n3_ := Aside0.mk (below_step (by repeat (first | (with_reducible first | exact HB.out | apply below_alloc | apply pw_below_drewN | apply below_drew1) | exact HB.out)) hb); clear HO103; clear HO107; clear HB; have HO103 := n0_; have HO107 := n1_; have HO111 := n2_; have HB := n3_; clear n0_ n1_ n2_ n3_; clear hb ho12; obtain ⟨Ao13, co13, eo13⟩ := Kd.R_slice HO107.out; subst eo13; obtain ⟨Ao14, co14, eo14⟩ := Kd.R_slice HO111.out; subst eo14) | (go_at_call 36; (with_reducible refine (agatelaw03_Ints_s.calls _ _ t104 _ _ y109 t112 _ ?side1 ?side2 ?side3 ?side4 A5.out).mono ?_); (case side1 => repeat (first | exact (Kd.R_reads' HO107.out).2.2 | (with_reducible refine Kd.C_alloc ?_ _) | (with_reducible refine Kd.C_drewN ?_ _) | (with_reducible refine Kd.C_drew ?_))); (case side2 => exact (Kd.R_reads' HO107.out).2.1); (case side3 => repeat (first | exact (Kd.R_reads' HO111.out).2.2 | (with_reducible refine Kd.C_alloc ?_ _) | (with_reducible refine Kd.C_drewN ?_ _) | (with_reducible refine Kd.C_drew ?_))); (case side4 => exact (Kd.R_reads' HO111.out).2.1); rintro e w' ⟨rfl, ⟨nd, rfl⟩⟩))
      go_ret
      exact ⟨by first | rfl | (simp [errW_none, errW_some] <;> rfl) | (simp [*, errW_none, errW_some] <;> rfl), by repeat (first | (with_reducible first | exact HB.out | apply below_alloc | apply pw_below_drewN | apply below_drew1) | exact HB.out)⟩
    · rw [if_neg c4] at H
      have c4b0 : (t105 == 0) = false := beq_eq_false_iff_ne.mpr c4
      have c4b1 : (t105 != 0) = true := bne_iff_ne.mpr c4
      obtain rfl := Option.some.inj H
      go_enter Try.func34, Try.ntmps34
      go_wp2_with (first | ((with_reducible refine gate_dst (N := 6) rfl ?_); (try (refine gate_guard (by rfl) ?_; dsimp only)); refine Kd.R_lit k47 _ 47 ?hg (N := 6) ?hd (xs := ([(⟨1, 2, 0, (⟨#[1, 255, 255, 255, 255, 255, 255, 255, 255, 255, 1]⟩ : ByteArray)⟩ : S47), (⟨1, 0, 5, (⟨#[]⟩ : ByteArray)⟩ : S47)] : List (S47))) (inner := [.int .i64 1, .int .i64 2, .int .u64 0, .string (⟨#[1, 255, 255, 255, 255, 255, 255, 255, 255, 255, 1]⟩ : ByteArray), .int .i64 1, .int .i64 0, .int .u64 5, .string (⟨#[]⟩ : ByteArray)]) (ok := fun _ => True) (okp := fun _ => True) ?hr ?hp (fun _ hk => hk) trivial (Below.refl _ _) (Nat.le_refl _) (by simp) ?_; (case hd => rfl); (case hg => rfl); (case hr => first | (go_simp; done) | (go_simp; rfl)); (case hp => exact (Reps.c4 (show Kd.M k47 _ _ _ (⟨1, 2, 0, (⟨#[1, 255, 255, 255, 255, 255, 255, 255, 255, 255, 1]⟩ : ByteArray)⟩ : S47) [.int .i64 1, .int .i64 2, .int .u64 0, .string (⟨#[1, 255, 255, 255, 255, 255, 255, 255, 255, 255, 1]⟩ : ByteArray)] from (k47_mkM _ _ _ (⟨1, 2, 0, (⟨#[1, 255, 255, 255, 255, 255, 255, 255, 255, 255, 1]⟩ : ByteArray)⟩ : S47) )) (Reps.c4 (show Kd.M k47 _ _ _ (⟨1, 0, 5, (⟨#[]⟩ : ByteArray)⟩ : S47) [.int .i64 1, .int .i64 0, .int .u64 5, .string (⟨#[]⟩ : ByteArray)] from (k47_mkM _ _ _ (⟨1, 0, 5, (⟨#[]⟩ : ByteArray)⟩ : S47) )) (Reps.none _ _)))); intro v102 w15 ho16 hb hg_ hnew_; clear hg_ hnew_; (first | rw [← Ny101.out] at ho16 | (simp only [Int.reduceToNat] at ho16; rw [← Ny101.out] at ho16)); have n0_ := Aside0.mk (Kd.R_lower ho16 (below_size (by repeat (first | (with_reducible first | exact HB.out | apply below_alloc | apply pw_below_drewN | apply below_drew1) | exact HB.out)))); have n1_ := Aside0.mk (below_step (by repeat (first | (with_reducible first | exact HB.out | apply below_alloc | apply pw_below_drewN | apply below_drew1) | exact HB.out)) hb); clear HB; have HO103 := n0_; have HB := n1_; clear n0_ n1_; clear hb ho16; obtain ⟨Ao17, co17, eo17⟩ := Kd.R_slice HO103.out; subst eo17) | ((with_reducible refine gate_callee (f := 33) rfl ?_); refine goesL_ (some 7) rfl rfl Try.func33 (by kernel_rfl) rfl #[.slice Ao17 y101.length co17, .int .i64 1] rfl (by (try simp only [List.map_toArray, List.map_cons, List.map_nil]); first | done | rfl | (simp only [List.length_drop, List.length_take]; rfl)) ?_; (with_reducible refine (pack_Ints_s.calls _ _ y101 1 t104 t105 _ ?side1 ?side2 A1.out).mono ?_); (case side1 => repeat (first | exact (Kd.R_reads' HO103.out).2.2 | (with_reducible refine Kd.C_alloc ?_ _) | (with_reducible refine Kd.C_drewN ?_ _) | (with_reducible refine Kd.C_drew ?_))); (case side2 => exact (Kd.R_reads' HO103.out).2.1); rintro e w18 ⟨v106, rfl, ho0, hb⟩; refine ⟨_, rfl, ?_⟩; have n0_ := Aside0.mk (Kd.R_below (by (with_reducible repeat (first | apply Kd.R_alloc | apply Kd.R_drewN | apply Kd.R_drew)); exact HO103.out) hb); have n1_ := Aside0.mk (Kd.R_lower ho0 (below_size (by repeat (first | (with_reducible first | exact HB.out | apply below_alloc | apply pw_below_drewN | apply below_drew1) | exact HB.out)))); have n2_ := Aside0.mk (below_step (by repeat (first | (with_reducible first | exact HB.out | apply below_alloc | apply pw_below_drewN | apply below_drew1) | exact HB.out)) hb); clear HO103; clear HB; have HO103 := n0_; have HO107 := n1_; have HB := n2_; clear n0_ n1_ n2_; (try clear hb); (try clear hb2); (try clear hk); (try clear hi); (try clear ho0)) | ((with_reducible refine gate_callee (f := 20) rfl ?_); refine goesL_ (some 10) rfl rfl Try.func20 (by kernel_rfl) rfl #[] rfl (by (try simp only [List.map_toArray, List.map_cons, List.map_nil]); first | done | rfl | (simp only [List.length_drop, List.length_take]; rfl)) ?_; (with_reducible refine (agatelaw02_Awake_s.calls  true _ A2.out).mono ?_); rintro e w19 ⟨rfl, hb⟩; refine ⟨_, rfl, ?_⟩; have n0_ := Aside0.mk (Kd.R_below (by (with_reducible repeat (first | apply Kd.R_alloc | apply Kd.R_drewN | apply Kd.R_drew)); exact HO103.out) hb); have n1_ := Aside0.mk (Kd.R_below (by (with_reducible repeat (first | apply Kd.R_alloc | apply Kd.R_drewN | apply Kd.R_drew)); exact HO107.out) hb); have n2_ := Aside0.mk (below_step (by repeat (first | (with_reducible first | exact HB.out | apply below_alloc | apply pw_below_drewN | apply below_drew1) | exact HB.out)) hb); clear HO103; clear HO107; clear HB; have HO103 := n0_; have HO107 := n1_; have HB := n2_; clear n0_ n1_ n2_; (try clear hb); (try clear hb2); (try clear hk); (try clear hi)))
      go_ret
      exact ⟨by first | rfl | (simp [errW_none, errW_some] <;> rfl) | (simp [*, errW_none, errW_some] <;> rfl), by repeat (first | (with_reducible first | exact HB.out | apply below_alloc | apply pw_below_drewN | apply below_drew1) | exact HB.out)⟩
  · replace c3 := Bool.eq_false_iff.mpr c3
    subst c3
    have H1 : (some false) = some r := by rw [if_neg (show ¬ (false = true) by decide)] at H; exact H
    clear H
    have H := H1
    clear H1
    obtain rfl := Option.some.inj H
    go_enter Try.func34, Try.ntmps34
    go_wp2_with (first | ((with_reducible refine gate_dst (N := 6) rfl ?_); (try (refine gate_guard (by rfl) ?_; dsimp only)); refine Kd.R_lit k47 _ 47 ?hg (N := 6) ?hd (xs := ([(⟨1, 2, 0, (⟨#[1, 255, 255, 255, 255, 255, 255, 255, 255, 255, 1]⟩ : ByteArray)⟩ : S47), (⟨1, 0, 5, (⟨#[]⟩ : ByteArray)⟩ : S47)] : List (S47))) (inner := [.int .i64 1, .int .i64 2, .int .u64 0, .string (⟨#[1, 255, 255, 255, 255, 255, 255, 255, 255, 255, 1]⟩ : ByteArray), .int .i64 1, .int .i64 0, .int .u64 5, .string (⟨#[]⟩ : ByteArray)]) (ok := fun _ => True) (okp := fun _ => True) ?hr ?hp (fun _ hk => hk) trivial (Below.refl _ _) (Nat.le_refl _) (by simp) ?_; (case hd => rfl); (case hg => rfl); (case hr => first | (go_simp; done) | (go_simp; rfl)); (case hp => exact (Reps.c4 (show Kd.M k47 _ _ _ (⟨1, 2, 0, (⟨#[1, 255, 255, 255, 255, 255, 255, 255, 255, 255, 1]⟩ : ByteArray)⟩ : S47) [.int .i64 1, .int .i64 2, .int .u64 0, .string (⟨#[1, 255, 255, 255, 255, 255, 255, 255, 255, 255, 1]⟩ : ByteArray)] from (k47_mkM _ _ _ (⟨1, 2, 0, (⟨#[1, 255, 255, 255, 255, 255, 255, 255, 255, 255, 1]⟩ : ByteArray)⟩ : S47) )) (Reps.c4 (show Kd.M k47 _ _ _ (⟨1, 0, 5, (⟨#[]⟩ : ByteArray)⟩ : S47) [.int .i64 1, .int .i64 0, .int .u64 5, .string (⟨#[]⟩ : ByteArray)] from (k47_mkM _ _ _ (⟨1, 0, 5, (⟨#[]⟩ : ByteArray)⟩ : S47) )) (Reps.none _ _)))); intro v102 w20 ho21 hb hg_ hnew_; clear hg_ hnew_; (first | rw [← Ny101.out] at ho21 | (simp only [Int.reduceToNat] at ho21; rw [← Ny101.out] at ho21)); have n0_ := Aside0.mk (Kd.R_lower ho21 (below_size (by repeat (first | (with_reducible first | exact HB.out | apply below_alloc | apply pw_below_drewN | apply below_drew1) | exact HB.out)))); have n1_ := Aside0.mk (below_step (by repeat (first | (with_reducible first | exact HB.out | apply below_alloc | apply pw_below_drewN | apply below_drew1) | exact HB.out)) hb); clear HB; have HO103 := n0_; have HB := n1_; clear n0_ n1_; clear hb ho21; obtain ⟨Ao22, co22, eo22⟩ := Kd.R_slice HO103.out; subst eo22) | ((with_reducible refine gate_callee (f := 33) rfl ?_); refine goesL_ (some 7) rfl rfl Try.func33 (by kernel_rfl) rfl #[.slice Ao22 y101.length co22, .int .i64 1] rfl (by (try simp only [List.map_toArray, List.map_cons, List.map_nil]); first | done | rfl | (simp only [List.length_drop, List.length_take]; rfl)) ?_; (with_reducible refine (pack_Ints_s.calls _ _ y101 1 t104 t105 _ ?side1 ?side2 A1.out).mono ?_); (case side1 => repeat (first | exact (Kd.R_reads' HO103.out).2.2 | (with_reducible refine Kd.C_alloc ?_ _) | (with_reducible refine Kd.C_drewN ?_ _) | (with_reducible refine Kd.C_drew ?_))); (case side2 => exact (Kd.R_reads' HO103.out).2.1); rintro e w23 ⟨v106, rfl, ho0, hb⟩; refine ⟨_, rfl, ?_⟩; have n0_ := Aside0.mk (Kd.R_below (by (with_reducible repeat (first | apply Kd.R_alloc | apply Kd.R_drewN | apply Kd.R_drew)); exact HO103.out) hb); have n1_ := Aside0.mk (Kd.R_lower ho0 (below_size (by repeat (first | (with_reducible first | exact HB.out | apply below_alloc | apply pw_below_drewN | apply below_drew1) | exact HB.out)))); have n2_ := Aside0.mk (below_step (by repeat (first | (with_reducible first | exact HB.out | apply below_alloc | apply pw_below_drewN | apply below_drew1) | exact HB.out)) hb); clear HO103; clear HB; have HO103 := n0_; have HO107 := n1_; have HB := n2_; clear n0_ n1_ n2_; (try clear hb); (try clear hb2); (try clear hk); (try clear hi); (try clear ho0)) | ((with_reducible refine gate_callee (f := 20) rfl ?_); refine goesL_ (some 10) rfl rfl Try.func20 (by kernel_rfl) rfl #[] rfl (by (try simp only [List.map_toArray, List.map_cons, List.map_nil]); first | done | rfl | (simp only [List.length_drop, List.length_take]; rfl)) ?_; (with_reducible refine (agatelaw02_Awake_s.calls  false _ A2.out).mono ?_); rintro e w24 ⟨rfl, hb⟩; refine ⟨_, rfl, ?_⟩; have n0_ := Aside0.mk (Kd.R_below (by (with_reducible repeat (first | apply Kd.R_alloc | apply Kd.R_drewN | apply Kd.R_drew)); exact HO103.out) hb); have n1_ := Aside0.mk (Kd.R_below (by (with_reducible repeat (first | apply Kd.R_alloc | apply Kd.R_drewN | apply Kd.R_drew)); exact HO107.out) hb); have n2_ := Aside0.mk (below_step (by repeat (first | (with_reducible first | exact HB.out | apply below_alloc | apply pw_below_drewN | apply below_drew1) | exact HB.out)) hb); clear HO103; clear HO107; clear HB; have HO103 := n0_; have HO107 := n1_; have HB := n2_; clear n0_ n1_ n2_; (try clear hb); (try clear hb2); (try clear hk); (try clear hi)))
    go_ret
    exact ⟨by first | rfl | (simp [errW_none, errW_some] <;> rfl) | (simp [*, errW_none, errW_some] <;> rfl), by repeat (first | (with_reducible first | exact HB.out | apply below_alloc | apply pw_below_drewN | apply below_drew1) | exact HB.out)⟩

end Go.Proofs.Ytohddbiedabmhaa.X
