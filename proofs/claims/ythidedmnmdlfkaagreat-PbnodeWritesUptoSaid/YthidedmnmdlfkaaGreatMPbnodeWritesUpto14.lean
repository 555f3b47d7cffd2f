import Derived.Test.YthidedmnmdlfkaaGreatMPbnodeWritesUpto2
import Derived.Test.YthidedmnmdlfkaaGreatMPbnodeWritesUpto13
import Derived.Test.YthidedmnmdlfkaaGreatMPbnodeWritesUpto4
import Derived.Test.YthidedmnmdlfkaaGreatMPbnodeWritesUpto3
import Derived.Test.YthidedmnmdlfkaaGreatMPbnodeWritesUpto8
import Derived.Test.YthidedmnmdlfkaaGreatMPbnodeWritesUpto5
import Derived.Test.YthidedmnmdlfkaaGreatMPbnodeWritesUpto10
import Derived.Test.YthidedmnmdlfkaaGreatMPbnodeWritesUpto11
import Derived.Test.YthidedmnmdlfkaaGreatMPbnodeWritesUpto7
namespace Go.Proofs.YthidedmnmdlfkaaGreat.X
open Go.RowKit Go.Proofs.YthidedmnmdlfkaaGreatW.PrintWords Go.Proofs.YthidedmnmdlfkaaGreatW.PrintLast Go.Proofs.YthidedmnmdlfkaaGreatW.PrintMore
attribute [local go_sem] max2_int min2_int max_two min_two max_three min_three max_four min_four
set_option linter.unusedVariables false
set_option linter.unusedSimpArgs false
theorem rdP (l : List (S75)) (i : Nat) (h : i < l.length) : rd_T75 l (i : Int) = l[i] := by
  simp [rd_T75, List.getD_eq_getElem?_getD, h]
def pack_Ints_s.f (l0 : List (S75)) (a1 : Int) : Option (List Int × Int) := if l0.length ≤ 3518437208883 ∧ ∀ x ∈ l0, x.f3.size ≤ 140737488351232 then some ((intsL ((l0.filter fun x => x.f0 == a1).map flP) []).1, ((intsL ((l0.filter fun x => x.f0 == a1).map flP) []).2 : Int)) else none
theorem pack_Ints_eval (l : List (S75)) (hl : l.length ≤ 3518437208883) (hs : ∀ x ∈ l, x.f3.size ≤ 140737488351232) (d : Nat) : ∀ (k i : Nat) (out : List Int), l.length - i = d → i ≤ l.length → out.length ≤ 65536 → d < k →
    pack_Ints.l0 k out l l.length i = some ((intsL ((l.drop i).map flP) out).1, ((intsL ((l.drop i).map flP) out).2 : Int)) := by
  induction d with
  | zero =>
    intro k i out hd hi ho hk
    obtain ⟨k, rfl⟩ : ∃ m, k = m + 1 := ⟨k - 1, by omega⟩
    simp only [pack_Ints.l0]
    rw [if_neg (by omega), List.drop_of_length_le (by omega)]
    rfl
  | succ d ih =>
    intro k i out hd hi ho hk
    obtain ⟨k, rfl⟩ : ∃ m, k = m + 1 := ⟨k - 1, by omega⟩
    have h0 : i < l.length := by omega
    simp only [pack_Ints.l0, rdP l i h0]
    have hsx := hs l[i] (List.getElem_mem _)
    have ew : wrap64 ((i : Int) + 1) = ((i + 1 : Nat) : Int) := by rw [wrap64_id (by omega) (by omega)]; omega
    rw [if_pos (by omega), if_pos (by omega), if_pos (by omega), List.drop_eq_getElem_cons h0, List.map_cons, ew]
    clear ew
    generalize l[i] = x at *
    rw [intsL]
    by_cases t0 : x.f1 = 0
    · rw [if_pos t0, if_pos (show (flP x).2.1 = 0 from t0)]
      by_cases hf : 65536 ≤ out.length
      · rw [if_pos (by omega), if_pos hf]; rfl
      · rw [if_neg (by omega), if_neg hf, if_pos (by omega)]
        exact ih k (i + 1) _ (by omega) (by omega) (by simp; omega) (by omega)
    · rw [if_neg t0, if_neg (show ¬ (flP x).2.1 = 0 from t0)]
      by_cases t2 : x.f1 = 2
      · have e : pack_packed_s.f out x.f3 = some ((packedF x.f3.size out x.f3).1, ((packedF x.f3.size out x.f3).2 : Int)) := if_pos ⟨hsx, ho⟩
        rw [if_pos t2, if_pos (show (flP x).2.1 = 2 from t2), e, Option.bind_some]
        show (if ((packedF x.f3.size out x.f3).2 : Int) = 0 then _ else _) = some ((if (packedF x.f3.size out x.f3).2 ≠ 0 then ([], (packedF x.f3.size out x.f3).2) else intsL ((l.drop (i + 1)).map flP) (packedF x.f3.size out x.f3).1).1, _)
        have hp := packedF_len x.f3.size out x.f3 ho
        have hcv : (flP x).2.2.2 = x.f3 := rfl
        simp only [hcv]
        by_cases hz : (packedF x.f3.size out x.f3).2 = 0
        · rw [if_pos (by omega), if_neg (fun h => h hz)]
          exact ih k (i + 1) _ (by omega) (by omega) hp (by omega)
        · rw [if_neg (by omega), if_pos hz]
      · rw [if_neg t2, if_neg (show ¬ (flP x).2.1 = 2 from t2)]
        rfl
theorem pack_Ints_s.ev (l0 : List (S75)) (a1 : Int) (r) (h : pack_Ints_s.f l0 a1 = some r) : ∃ k, pack_Ints.f k l0 a1 = some r := by
  unfold pack_Ints_s.f at h
  split at h
  · rename_i hs
    rw [← h]
    have e : wire_All_s.f l0 a1 = some (l0.filter fun x => x.f0 == a1) := if_pos hs.1
    have hle : (l0.filter fun x => x.f0 == a1).length ≤ l0.length := List.length_filter_le _ _
    refine ⟨(l0.filter fun x => x.f0 == a1).length + 1, ?_⟩
    unfold pack_Ints.f
    rw [e, Option.bind_some]
    have := pack_Ints_eval (l0.filter fun x => x.f0 == a1) (by omega) (fun x hx => hs.2 x (List.mem_filter.1 hx).1) _ ((l0.filter fun x => x.f0 == a1).length + 1) 0 [] rfl (by omega) (by simp) (by omega)
    simpa using this
  · cases h
set_option maxHeartbeats 1000000 in
theorem pack_Ints_s.calls (A0 : Option Addr) (c0 : Nat) (l0 : List (S75)) (a1 : Int) (r1 : List Int) (r2 : Int) (w : World) (hr0 : Kd.C k75 w A0 l0.length l0) (hc0 : l0.length ≤ c0) (h : pack_Ints_s.f l0 a1 = some (r1, r2)) :
    Calls Tryz.prog 38 #[.slice A0 l0.length c0, .int .i64 a1] w fun e w' => ∃ v0_ : Value, e = .returned (.tuple #[v0_, .int .i64 r2]) ∧ Kd.R (Kd.int .i64) 2 w' w.heap.size (fun _ => True) v0_ r1 ∧ Below w.heap.size w w' := by
  obtain ⟨k, hk⟩ := pack_Ints_s.ev l0 a1 _ h
  exact pack_Ints.calls k A0 c0 l0 a1 r1 r2 w hr0 hc0 hk
def agatelaw03_Awake.f  : Option (Bool) := (pack_Ints_s.f (([(⟨1, 2, 0, (⟨#[1, 255, 255, 255, 255, 255, 255, 255, 255, 255, 1]⟩ : ByteArray)⟩ : S75), (⟨1, 0, 5, (⟨#[]⟩ : ByteArray)⟩ : S75)] : List (S75))) 1).bind fun bt104 => ((agatelaw02_Awake_s.f).bind fun t108 => (if t108 = true then (if bt104.2 = 0 then ((agatelaw03_Ints_s.f bt104.1 (([1, (-1), 5] : List Int))).bind fun t112 => (some t112)) else (some false)) else (some false)))
set_option maxHeartbeats 8000000 in
set_option maxRecDepth 100000 in
theorem agatelaw03_Awake.calls  (r : Bool) (w : World) (h : agatelaw03_Awake.f  = some r) :
  Calls Tryz.prog 19 #[] w fun e w' => e = .returned (.bool r) ∧ Below w.heap.size w w' := by
 have hu75 := Tryz.underlying75
 have HB := Aside0.mk (Below.refl w.heap.size w)
 have H : ((pack_Ints_s.f (([(⟨1, 2, 0, (⟨#[1, 255, 255, 255, 255, 255, 255, 255, 255, 255, 1]⟩ : ByteArray)⟩ : S75), (⟨1, 0, 5, (⟨#[]⟩ : ByteArray)⟩ : S75)] : List (S75))) 1).bind fun bt104 => ((agatelaw02_Awake_s.f).bind fun t108 => (if t108 = true then (if bt104.2 = 0 then ((agatelaw03_Ints_s.f bt104.1 (([1, (-1), 5] : List Int))).bind fun t112 => (some t112)) else (some false)) else (some false)))) = some r := h
 clear h
 obtain ⟨y101, hy101⟩ : ∃ y_ : List (S75), y_ = (([(⟨1, 2, 0, (⟨#[1, 255, 255, 255, 255, 255, 255, 255, 255, 255, 1]⟩ : ByteArray)⟩ : S75), (⟨1, 0, 5, (⟨#[]⟩ : ByteArray)⟩ : S75)] : List (S75))) := ⟨_, rfl⟩
 replace H : ((pack_Ints_s.f y101 1).bind fun bt104 => ((agatelaw02_Awake_s.f).bind fun t108 => (if t108 = true then (if bt104.2 = 0 then ((agatelaw03_Ints_s.f bt104.1 (([1, (-1), 5] : List Int))).bind fun t112 => (some t112)) else (some false)) else (some false)))) = some r := by first | (rw [hy101]; with_reducible exact H) | (have H2_ := (Option.bind_some _ _).symm.trans H; rw [hy101]; with_reducible exact H2_) | (have H2_ := (Option.bind_some _ _).symm.trans H; with_reducible exact H2_) | with_reducible exact H | (rw [hy101]; exact H) | exact H
 have Ny101 := Aside0.mk hy101
 clear hy101
 replace H := Option.bind_eq_some_iff.mp H
 obtain ⟨⟨t104, t105⟩, A10, H⟩ := H
 replace H : ((agatelaw02_Awake_s.f).bind fun t108 => (if t108 = true then (if t105 = 0 then ((agatelaw03_Ints_s.f t104 (([1, (-1), 5] : List Int))).bind fun t112 => (some t112)) else (some false)) else (some false))) = some r := H
 have A1 := Aside0.mk A10
 clear A10
 replace H := Option.bind_eq_some_iff.mp H
 obtain ⟨t108, A20, H⟩ := H
 replace H : (if t108 = true then (if t105 = 0 then ((agatelaw03_Ints_s.f t104 (([1, (-1), 5] : List Int))).bind fun t112 => (some t112)) else (some false)) else (some false)) = some r := H
 have A2 := Aside0.mk A20
 clear A20
 by_cases c3 : t108 = true
 ·
  subst c3
  have H1 : (if t105 = 0 then ((agatelaw03_Ints_s.f t104 (([1, (-1), 5] : List Int))).bind fun t112 => (some t112)) else (some false)) = some r := by rw [if_pos rfl] at H; exact H
  clear H
  have H := H1
  clear H1
  by_cases c4 : t105 = 0
  ·
   rw [if_pos c4] at H
   have c4b0 : (t105 == 0) = true := beq_iff_eq.mpr c4
   have c4b1 : (t105 != 0) = false := bne_eq_false_iff_eq.mpr c4
   clear c4
   obtain ⟨y109, hy109⟩ : ∃ y_ : List Int, y_ = (([1, (-1), 5] : List Int)) := ⟨_, rfl⟩
   replace H : ((agatelaw03_Ints_s.f t104 y109).bind fun t112 => (some t112)) = some r := by first | (rw [hy109]; with_reducible exact H) | (have H2_ := (Option.bind_some _ _).symm.trans H; rw [hy109]; with_reducible exact H2_) | (have H2_ := (Option.bind_some _ _).symm.trans H; with_reducible exact H2_) | with_reducible exact H | (rw [hy109]; exact H) | exact H
   have Ny109 := Aside0.mk hy109
   clear hy109
   replace H := Option.bind_eq_some_iff.mp H
   obtain ⟨t112, A50, H⟩ := H
   replace H : (some t112) = some r := H
   have A5 := Aside0.mk A50
   clear A50
   obtain rfl := Option.some.inj H
   go_enter Tryz.func19, Tryz.ntmps19
   go_wp2_with (first | ((with_reducible refine gate_dst (N := 6) rfl ?_); (try (refine gate_guard (by rfl) ?_; dsimp only)); refine Kd.R_lit k75 _ 75 ?hg (N := 6) ?hd (xs := ([(⟨1, 2, 0, (⟨#[1, 255, 255, 255, 255, 255, 255, 255, 255, 255, 1]⟩ : ByteArray)⟩ : S75), (⟨1, 0, 5, (⟨#[]⟩ : ByteArray)⟩ : S75)] : List (S75))) (inner := [.int .i64 1, .int .i64 2, .int .u64 0, .string (⟨#[1, 255, 255, 255, 255, 255, 255, 255, 255, 255, 1]⟩ : ByteArray), .int .i64 1, .int .i64 0, .int .u64 5, .string (⟨#[]⟩ : ByteArray)]) (ok := fun _ => True) (okp := fun _ => True) ?hr ?hp (fun _ hk => hk) trivial (Below.refl _ _) (Nat.le_refl _) (by simp) ?_; (case hd => rfl); (case hg => rfl); (case hr => first | (go_simp; done) | (go_simp; rfl)); (case hp => exact (Reps.c4 (show Kd.M k75 _ _ _ (⟨1, 2, 0, (⟨#[1, 255, 255, 255, 255, 255, 255, 255, 255, 255, 1]⟩ : ByteArray)⟩ : S75) [.int .i64 1, .int .i64 2, .int .u64 0, .string (⟨#[1, 255, 255, 255, 255, 255, 255, 255, 255, 255, 1]⟩ : ByteArray)] from (k75_mkM _ _ _ (⟨1, 2, 0, (⟨#[1, 255, 255, 255, 255, 255, 255, 255, 255, 255, 1]⟩ : ByteArray)⟩ : S75) )) (Reps.c4 (show Kd.M k75 _ _ _ (⟨1, 0, 5, (⟨#[]⟩ : ByteArray)⟩ : S75) [.int .i64 1, .int .i64 0, .int .u64 5, .string (⟨#[]⟩ : ByteArray)] from (k75_mkM _ _ _ (⟨1, 0, 5, (⟨#[]⟩ : ByteArray)⟩ : S75) )) (Reps.none _ _)))); intro v102 w6 ho7 hb hg_ hnew_; clear hg_ hnew_; (first | rw [← Ny101.out] at ho7 | (simp only [Int.reduceToNat] at ho7; rw [← Ny101.out] at ho7)); have n0_ := Aside0.mk (Kd.R_lower ho7 (below_size (hbA HB))); have n1_ := Aside0.mk (below_step (hbA HB) hb); clear HB; have HO103 := n0_; have HB := n1_; clear n0_ n1_; clear hb ho7; obtain ⟨Ao8, co8, eo8⟩ := Kd.R_slice HO103.out; subst eo8) | ((with_reducible refine gate_callee (f := 38) rfl ?_); refine goesL_ (some 7) rfl rfl Tryz.func38 (by kernel_rfl) rfl #[.slice Ao8 y101.length co8, .int .i64 1] rfl (by (try simp only [List.map_toArray, List.map_cons, List.map_nil]); first | done | rfl | (simp only [List.length_drop, List.length_take]; rfl)) ?_; (with_reducible refine (pack_Ints_s.calls _ _ y101 1 t104 t105 _ ?side1 ?side2 A1.out).mono ?_); (case side1 => repeat (first | exact (Kd.R_reads' HO103.out).2.2 | (with_reducible refine Kd.C_alloc ?_ _) | (with_reducible refine Kd.C_drewN ?_ _) | (with_reducible refine Kd.C_drew ?_))); (case side2 => exact (Kd.R_reads' HO103.out).2.1); rintro e w9 ⟨v106, rfl, ho0, hb⟩; refine ⟨_, rfl, ?_⟩; have n0_ := Aside0.mk (Kd.R_below (krA HO103) hb); have n1_ := Aside0.mk (Kd.R_lower ho0 (below_size (hbA HB))); have n2_ := Aside0.mk (below_step (hbA HB) hb); clear HO103; clear HB; have HO103 := n0_; have HO107 := n1_; have HB := n2_; clear n0_ n1_ n2_; (try clear hb); (try clear hb2); (try clear hk); (try clear hi); (try clear ho0)) | ((with_reducible refine gate_callee (f := 39) rfl ?_); refine goesL_ (some 10) rfl rfl Tryz.func39 (by kernel_rfl) rfl #[] rfl (by (try simp only [List.map_toArray, List.map_cons, List.map_nil]); first | done | rfl | (simp only [List.length_drop, List.length_take]; rfl)) ?_; (with_reducible refine (agatelaw02_Awake_s.calls  true _ A2.out).mono ?_); rintro e w10 ⟨rfl, hb⟩; refine ⟨_, rfl, ?_⟩; have n0_ := Aside0.mk (Kd.R_below (krA HO103) hb); have n1_ := Aside0.mk (Kd.R_below (krA HO107) hb); have n2_ := Aside0.mk (below_step (hbA HB) hb); clear HO103; clear HO107; clear HB; have HO103 := n0_; have HO107 := n1_; have HB := n2_; clear n0_ n1_ n2_; (try clear hb); (try clear hb2); (try clear hk); (try clear hi)) | ((with_reducible refine gate_dst (N := 17) rfl ?_); (try (refine gate_guard (by rfl) ?_; dsimp only)); refine Kd.R_lit (Kd.int .i64) _ 2 ?hg (N := 17) ?hd (xs := ([1, (-1), 5] : List Int)) (inner := [.int .i64 1, .int .i64 (-1), .int .i64 5]) (ok := fun _ => True) (okp := fun _ => True) ?hr ?hp (fun _ hk => hk) trivial (Below.refl _ _) (Nat.le_refl _) (by simp) ?_; (case hd => rfl); (case hg => rfl); (case hr => first | (go_simp; done) | (go_simp; rfl)); (case hp => exact (Reps.one (show Kd.M (Kd.int .i64) _ _ _ 1 [.int .i64 1] from rfl) (Reps.one (show Kd.M (Kd.int .i64) _ _ _ (-1) [.int .i64 (-1)] from rfl) (Reps.one (show Kd.M (Kd.int .i64) _ _ _ 5 [.int .i64 5] from rfl) (Reps.none _ _))))); intro v110 w11 ho12 hb hg_ hnew_; clear hg_ hnew_; (first | rw [← Ny109.out] at ho12 | (simp only [Int.reduceToNat] at ho12; rw [← Ny109.out] at ho12)); have n0_ := Aside0.mk (Kd.R_below (krA HO103) hb); have n1_ := Aside0.mk (Kd.R_elder' (krA HO107) (Kd.R_base ho12) hb); have n2_ := Aside0.mk (Kd.R_lower (Kd.R_new' ho12 (Kd.R_lt (krA HO107))) (below_size (hbA HB))); have n3_ := Aside0.mk (below_step (hbA HB) hb); clear HO103; clear HO107; clear HB; have HO103 := n0_; have HO107 := n1_; have HO111 := n2_; have HB := n3_; clear n0_ n1_ n2_ n3_; clear hb ho12; obtain ⟨Ao13, co13, eo13⟩ := Kd.R_slice HO107.out; subst eo13; obtain ⟨Ao14, co14, eo14⟩ := Kd.R_slice HO111.out; subst eo14) | (go_at_call 40; (with_reducible refine (agatelaw03_Ints_s.calls _ _ t104 _ _ y109 t112 _ ?side1 ?side2 ?side3 ?side4 A5.out).mono ?_); (case side1 => repeat (first | exact (Kd.R_reads' HO107.out).2.2 | (with_reducible refine Kd.C_alloc ?_ _) | (with_reducible refine Kd.C_drewN ?_ _) | (with_reducible refine Kd.C_drew ?_))); (case side2 => exact (Kd.R_reads' HO107.out).2.1); (case side3 => repeat (first | exact (Kd.R_reads' HO111.out).2.2 | (with_reducible refine Kd.C_alloc ?_ _) | (with_reducible refine Kd.C_drewN ?_ _) | (with_reducible refine Kd.C_drew ?_))); (case side4 => exact (Kd.R_reads' HO111.out).2.1); rintro e w' ⟨rfl, ⟨nd, rfl⟩⟩))
   go_ret
   exact ⟨by first | rfl | (simp [errW_none, errW_some] <;> rfl) | (simp [*, errW_none, errW_some] <;> rfl), hbA HB⟩
  ·
   rw [if_neg c4] at H
   have c4b0 : (t105 == 0) = false := beq_eq_false_iff_ne.mpr c4
   have c4b1 : (t105 != 0) = true := bne_iff_ne.mpr c4
   obtain rfl := Option.some.inj H
   go_enter Tryz.func19, Tryz.ntmps19
   go_wp2_with (first | ((with_reducible refine gate_dst (N := 6) rfl ?_); (try (refine gate_guard (by rfl) ?_; dsimp only)); refine Kd.R_lit k75 _ 75 ?hg (N := 6) ?hd (xs := ([(⟨1, 2, 0, (⟨#[1, 255, 255, 255, 255, 255, 255, 255, 255, 255, 1]⟩ : ByteArray)⟩ : S75), (⟨1, 0, 5, (⟨#[]⟩ : ByteArray)⟩ : S75)] : List (S75))) (inner := [.int .i64 1, .int .i64 2, .int .u64 0, .string (⟨#[1, 255, 255, 255, 255, 255, 255, 255, 255, 255, 1]⟩ : ByteArray), .int .i64 1, .int .i64 0, .int .u64 5, .string (⟨#[]⟩ : ByteArray)]) (ok := fun _ => True) (okp := fun _ => True) ?hr ?hp (fun _ hk => hk) trivial (Below.refl _ _) (Nat.le_refl _) (by simp) ?_; (case hd => rfl); (case hg => rfl); (case hr => first | (go_simp; done) | (go_simp; rfl)); (case hp => exact (Reps.c4 (show Kd.M k75 _ _ _ (⟨1, 2, 0, (⟨#[1, 255, 255, 255, 255, 255, 255, 255, 255, 255, 1]⟩ : ByteArray)⟩ : S75) [.int .i64 1, .int .i64 2, .int .u64 0, .string (⟨#[1, 255, 255, 255, 255, 255, 255, 255, 255, 255, 1]⟩ : ByteArray)] from (k75_mkM _ _ _ (⟨1, 2, 0, (⟨#[1, 255, 255, 255, 255, 255, 255, 255, 255, 255, 1]⟩ : ByteArray)⟩ : S75) )) (Reps.c4 (show Kd.M k75 _ _ _ (⟨1, 0, 5, (⟨#[]⟩ : ByteArray)⟩ : S75) [.int .i64 1, .int .i64 0, .int .u64 5, .string (⟨#[]⟩ : ByteArray)] from (k75_mkM _ _ _ (⟨1, 0, 5, (⟨#[]⟩ : ByteArray)⟩ : S75) )) (Reps.none _ _)))); intro v102 w15 ho16 hb hg_ hnew_; clear hg_ hnew_; (first | rw [← Ny101.out] at ho16 | (simp only [Int.reduceToNat] at ho16; rw [← Ny101.out] at ho16)); have n0_ := Aside0.mk (Kd.R_lower ho16 (below_size (hbA HB))); have n1_ := Aside0.mk (below_step (hbA HB) hb); clear HB; have HO103 := n0_; have HB := n1_; clear n0_ n1_; clear hb ho16; obtain ⟨Ao17, co17, eo17⟩ := Kd.R_slice HO103.out; subst eo17) | ((with_reducible refine gate_callee (f := 38) rfl ?_); refine goesL_ (some 7) rfl rfl Tryz.func38 (by kernel_rfl) rfl #[.slice Ao17 y101.length co17, .int .i64 1] rfl (by (try simp only [List.map_toArray, List.map_cons, List.map_nil]); first | done | rfl | (simp only [List.length_drop, List.length_take]; rfl)) ?_; (with_reducible refine (pack_Ints_s.calls _ _ y101 1 t104 t105 _ ?side1 ?side2 A1.out).mono ?_); (case side1 => repeat (first | exact (Kd.R_reads' HO103.out).2.2 | (with_reducible refine Kd.C_alloc ?_ _) | (with_reducible refine Kd.C_drewN ?_ _) | (with_reducible refine Kd.C_drew ?_))); (case side2 => exact (Kd.R_reads' HO103.out).2.1); rintro e w18 ⟨v106, rfl, ho0, hb⟩; refine ⟨_, rfl, ?_⟩; have n0_ := Aside0.mk (Kd.R_below (krA HO103) hb); have n1_ := Aside0.mk (Kd.R_lower ho0 (below_size (hbA HB))); have n2_ := Aside0.mk (below_step (hbA HB) hb); clear HO103; clear HB; have HO103 := n0_; have HO107 := n1_; have HB := n2_; clear n0_ n1_ n2_; (try clear hb); (try clear hb2); (try clear hk); (try clear hi); (try clear ho0)) | ((with_reducible refine gate_callee (f := 39) rfl ?_); refine goesL_ (some 10) rfl rfl Tryz.func39 (by kernel_rfl) rfl #[] rfl (by (try simp only [List.map_toArray, List.map_cons, List.map_nil]); first | done | rfl | (simp only [List.length_drop, List.length_take]; rfl)) ?_; (with_reducible refine (agatelaw02_Awake_s.calls  true _ A2.out).mono ?_); rintro e w19 ⟨rfl, hb⟩; refine ⟨_, rfl, ?_⟩; have n0_ := Aside0.mk (Kd.R_below (krA HO103) hb); have n1_ := Aside0.mk (Kd.R_below (krA HO107) hb); have n2_ := Aside0.mk (below_step (hbA HB) hb); clear HO103; clear HO107; clear HB; have HO103 := n0_; have HO107 := n1_; have HB := n2_; clear n0_ n1_ n2_; (try clear hb); (try clear hb2); (try clear hk); (try clear hi)))
   go_ret
   exact ⟨by first | rfl | (simp [errW_none, errW_some] <;> rfl) | (simp [*, errW_none, errW_some] <;> rfl), hbA HB⟩
 ·
  replace c3 := Bool.eq_false_iff.mpr c3
  subst c3
  have H1 : (some false) = some r := by rw [if_neg (show ¬ (false = true) by decide)] at H; exact H
  clear H
  have H := H1
  clear H1
  obtain rfl := Option.some.inj H
  go_enter Tryz.func19, Tryz.ntmps19
  go_wp2_with (first | ((with_reducible refine gate_dst (N := 6) rfl ?_); (try (refine gate_guard (by rfl) ?_; dsimp only)); refine Kd.R_lit k75 _ 75 ?hg (N := 6) ?hd (xs := ([(⟨1, 2, 0, (⟨#[1, 255, 255, 255, 255, 255, 255, 255, 255, 255, 1]⟩ : ByteArray)⟩ : S75), (⟨1, 0, 5, (⟨#[]⟩ : ByteArray)⟩ : S75)] : List (S75))) (inner := [.int .i64 1, .int .i64 2, .int .u64 0, .string (⟨#[1, 255, 255, 255, 255, 255, 255, 255, 255, 255, 1]⟩ : ByteArray), .int .i64 1, .int .i64 0, .int .u64 5, .string (⟨#[]⟩ : ByteArray)]) (ok := fun _ => True) (okp := fun _ => True) ?hr ?hp (fun _ hk => hk) trivial (Below.refl _ _) (Nat.le_refl _) (by simp) ?_; (case hd => rfl); (case hg => rfl); (case hr => first | (go_simp; done) | (go_simp; rfl)); (case hp => exact (Reps.c4 (show Kd.M k75 _ _ _ (⟨1, 2, 0, (⟨#[1, 255, 255, 255, 255, 255, 255, 255, 255, 255, 1]⟩ : ByteArray)⟩ : S75) [.int .i64 1, .int .i64 2, .int .u64 0, .string (⟨#[1, 255, 255, 255, 255, 255, 255, 255, 255, 255, 1]⟩ : ByteArray)] from (k75_mkM _ _ _ (⟨1, 2, 0, (⟨#[1, 255, 255, 255, 255, 255, 255, 255, 255, 255, 1]⟩ : ByteArray)⟩ : S75) )) (Reps.c4 (show Kd.M k75 _ _ _ (⟨1, 0, 5, (⟨#[]⟩ : ByteArray)⟩ : S75) [.int .i64 1, .int .i64 0, .int .u64 5, .string (⟨#[]⟩ : ByteArray)] from (k75_mkM _ _ _ (⟨1, 0, 5, (⟨#[]⟩ : ByteArray)⟩ : S75) )) (Reps.none _ _)))); intro v102 w20 ho21 hb hg_ hnew_; clear hg_ hnew_; (first | rw [← Ny101.out] at ho21 | (simp only [Int.reduceToNat] at ho21; rw [← Ny101.out] at ho21)); have n0_ := Aside0.mk (Kd.R_lower ho21 (below_size (hbA HB))); have n1_ := Aside0.mk (below_step (hbA HB) hb); clear HB; have HO103 := n0_; have HB := n1_; clear n0_ n1_; clear hb ho21; obtain ⟨Ao22, co22, eo22⟩ := Kd.R_slice HO103.out; subst eo22) | ((with_reducible refine gate_callee (f := 38) rfl ?_); refine goesL_ (some 7) rfl rfl Tryz.func38 (by kernel_rfl) rfl #[.slice Ao22 y101.length co22, .int .i64 1] rfl (by (try simp only [List.map_toArray, List.map_cons, List.map_nil]); first | done | rfl | (simp only [List.length_drop, List.length_take]; rfl)) ?_; (with_reducible refine (pack_Ints_s.calls _ _ y101 1 t104 t105 _ ?side1 ?side2 A1.out).mono ?_); (case side1 => repeat (first | exact (Kd.R_reads' HO103.out).2.2 | (with_reducible refine Kd.C_alloc ?_ _) | (with_reducible refine Kd.C_drewN ?_ _) | (with_reducible refine Kd.C_drew ?_))); (case side2 => exact (Kd.R_reads' HO103.out).2.1); rintro e w23 ⟨v106, rfl, ho0, hb⟩; refine ⟨_, rfl, ?_⟩; have n0_ := Aside0.mk (Kd.R_below (krA HO103) hb); have n1_ := Aside0.mk (Kd.R_lower ho0 (below_size (hbA HB))); have n2_ := Aside0.mk (below_step (hbA HB) hb); clear HO103; clear HB; have HO103 := n0_; have HO107 := n1_; have HB := n2_; clear n0_ n1_ n2_; (try clear hb); (try clear hb2); (try clear hk); (try clear hi); (try clear ho0)) | ((with_reducible refine gate_callee (f := 39) rfl ?_); refine goesL_ (some 10) rfl rfl Tryz.func39 (by kernel_rfl) rfl #[] rfl (by (try simp only [List.map_toArray, List.map_cons, List.map_nil]); first | done | rfl | (simp only [List.length_drop, List.length_take]; rfl)) ?_; (with_reducible refine (agatelaw02_Awake_s.calls  false _ A2.out).mono ?_); rintro e w24 ⟨rfl, hb⟩; refine ⟨_, rfl, ?_⟩; have n0_ := Aside0.mk (Kd.R_below (krA HO103) hb); have n1_ := Aside0.mk (Kd.R_below (krA HO107) hb); have n2_ := Aside0.mk (below_step (hbA HB) hb); clear HO103; clear HO107; clear HB; have HO103 := n0_; have HO107 := n1_; have HB := n2_; clear n0_ n1_ n2_; (try clear hb); (try clear hb2); (try clear hk); (try clear hi)))
  go_ret
  exact ⟨by first | rfl | (simp [errW_none, errW_some] <;> rfl) | (simp [*, errW_none, errW_some] <;> rfl), hbA HB⟩
def agatelaw03_Awake_s.f : Option Bool := some true
theorem awake03_packed : packedF 11 [] ⟨#[1, 255, 255, 255, 255, 255, 255, 255, 255, 255, 1]⟩ = ([1, -1], 0) := by
  have e1 : vRead ⟨#[1, 255, 255, 255, 255, 255, 255, 255, 255, 255, 1]⟩ = (1, 1, 0) := by decide
  have e2 : ByteArray.extract ⟨#[1, 255, 255, 255, 255, 255, 255, 255, 255, 255, 1]⟩ 1 (ByteArray.size ⟨#[1, 255, 255, 255, 255, 255, 255, 255, 255, 255, 1]⟩) = ⟨#[255, 255, 255, 255, 255, 255, 255, 255, 255, 1]⟩ := by decide
  have e3 : vRead ⟨#[255, 255, 255, 255, 255, 255, 255, 255, 255, 1]⟩ = (18446744073709551615, 10, 0) := by decide
  have e4 : ByteArray.extract ⟨#[255, 255, 255, 255, 255, 255, 255, 255, 255, 1]⟩ 10 (ByteArray.size ⟨#[255, 255, 255, 255, 255, 255, 255, 255, 255, 1]⟩) = ⟨#[]⟩ := by decide
  have w1 : wrap64 1 = 1 := wrap64_id (by decide) (by decide)
  have w2 : wrap64 18446744073709551615 = -1 := by unfold wrap64; decide
  rw [packedF, if_neg (by decide), e1]
  rw [if_neg (by simp), if_neg (by simp)]
  simp only [e2]
  rw [packedF, if_neg (by decide), e3]
  rw [if_neg (by simp), if_neg (by simp)]
  simp only [e4]
  rw [packedF, if_pos (by decide)]
  show ([] ++ [wrap64 1] ++ [wrap64 18446744073709551615], 0) = _
  rw [w1, w2]; rfl
theorem agatelaw03_Awake_s.ev (r) (h : agatelaw03_Awake_s.f = some r) : ∃ k : Nat, agatelaw03_Awake.f = some r := by
  refine ⟨0, ?_⟩
  rw [← h]
  unfold agatelaw03_Awake.f agatelaw03_Awake_s.f
  have w5 : wrap64 5 = 5 := wrap64_id (by decide) (by decide)
  have e1 : pack_Ints_s.f [(⟨1, 2, 0, ⟨#[1, 255, 255, 255, 255, 255, 255, 255, 255, 255, 1]⟩⟩ : S75), ⟨1, 0, 5, ⟨#[]⟩⟩] 1 = some ([1, -1, 5], 0) := by
    unfold pack_Ints_s.f
    rw [if_pos ⟨by decide, by simp; decide⟩]
    have : intsL (([(⟨1, 2, 0, ⟨#[1, 255, 255, 255, 255, 255, 255, 255, 255, 255, 1]⟩⟩ : S75), ⟨1, 0, 5, ⟨#[]⟩⟩].filter fun x => x.f0 == 1).map flP) [] = ([1, -1, 5], 0) := by
      show intsL [(1, 2, 0, ⟨#[1, 255, 255, 255, 255, 255, 255, 255, 255, 255, 1]⟩), (1, 0, 5, ⟨#[]⟩)] [] = _
      rw [intsL, if_neg (by decide), if_pos rfl]
      show (if (packedF 11 [] ⟨#[1, 255, 255, 255, 255, 255, 255, 255, 255, 255, 1]⟩).2 ≠ 0 then _ else intsL _ (packedF 11 [] ⟨#[1, 255, 255, 255, 255, 255, 255, 255, 255, 255, 1]⟩).1) = _
      rw [awake03_packed, if_neg (by simp), intsL, if_pos rfl, if_neg (by simp), intsL]
      show ([1, -1] ++ [wrap64 5], 0) = _
      rw [w5]; rfl
    rw [this]; rfl
  rw [e1]
  simp only [Option.bind_some, agatelaw02_Awake_s.f, if_true]
  unfold agatelaw03_Ints_s.f
  rw [if_pos (by decide)]
  rfl
set_option maxHeartbeats 1000000 in
theorem agatelaw03_Awake_s.calls  (r : Bool) (w : World) (h : agatelaw03_Awake_s.f  = some r) :
    Calls Tryz.prog 19 #[] w fun e w' => e = .returned (.bool r) ∧ Below w.heap.size w w' := by
  obtain ⟨k, hk⟩ := agatelaw03_Awake_s.ev  _ h
  exact agatelaw03_Awake.calls r w hk
end Go.Proofs.YthidedmnmdlfkaaGreat.X
namespace Go.Proofs.YthidedmnmdlfkaaGreat.X
open Go.RowKit Go.Proofs.YthidedmnmdlfkaaGreatW.PrintWords Go.Proofs.YthidedmnmdlfkaaGreatW.PrintLast Go.Proofs.YthidedmnmdlfkaaGreatW.PrintMore
attribute [local go_sem] max2_int min2_int max_two min_two max_three min_three max_four min_four
set_option linter.unusedVariables false
set_option linter.unusedSimpArgs false
def agatelaw11_Awake.f (k : Nat)  : Option (Bool) := (agatelaw03_Awake_s.f).bind fun t101 => (if t101 = true then ((agatelaw10_Awake.f).bind fun t102 => (if t102 = true then ((pbnode_PutNode.f k (⟨#[78, 101, 103]⟩ : ByteArray) (([(⟨#[120]⟩ : ByteArray)] : List ByteArray)) (⟨#[121]⟩ : ByteArray) ([] : List (S65))).bind fun t106 => (some (t106.toList == ([10, 1, 120, 18, 1, 121, 34, 3, 78, 101, 103] : List UInt8)))) else (some false))) else (some false))
attribute [local irreducible] Calls
set_option maxHeartbeats 8000000 in
set_option maxRecDepth 100000 in
theorem agatelaw11_Awake.calls (k : Nat)  (r : Bool) (w : World) (h : agatelaw11_Awake.f k  = some r) :
  Calls Tryz.prog 5 #[] w fun e w' => e = .returned (.bool r) ∧ Below w.heap.size w w' := by
 have hu25 := Tryz.underlying25; have HB := mk0 (Below.refl w.heap.size w); have H : ((agatelaw03_Awake_s.f).bind fun t101 => (if t101 = true then ((agatelaw10_Awake.f).bind fun t102 => (if t102 = true then ((pbnode_PutNode.f k (⟨#[78, 101, 103]⟩ : ByteArray) (([(⟨#[120]⟩ : ByteArray)] : List ByteArray)) (⟨#[121]⟩ : ByteArray) ([] : List (S65))).bind fun t106 => (some (t106.toList == ([10, 1, 120, 18, 1, 121, 34, 3, 78, 101, 103] : List UInt8)))) else (some false))) else (some false))) = some r := h; clear h; replace H := bnd H; obtain ⟨t101, A1, H⟩ := H
 by_cases c2 : t101 = true
 ·
  subst c2; have H1 : ((agatelaw10_Awake.f).bind fun t102 => (if t102 = true then ((pbnode_PutNode.f k (⟨#[78, 101, 103]⟩ : ByteArray) (([(⟨#[120]⟩ : ByteArray)] : List ByteArray)) (⟨#[121]⟩ : ByteArray) ([] : List (S65))).bind fun t106 => (some (t106.toList == ([10, 1, 120, 18, 1, 121, 34, 3, 78, 101, 103] : List UInt8)))) else (some false))) = some r := by rw [if_pos rfl] at H; exact H
  clear H; have H := H1; clear H1; replace H := bnd H; obtain ⟨t102, A3, H⟩ := H
  by_cases c4 : t102 = true
  ·
   subst c4; have H1 : ((pbnode_PutNode.f k (⟨#[78, 101, 103]⟩ : ByteArray) (([(⟨#[120]⟩ : ByteArray)] : List ByteArray)) (⟨#[121]⟩ : ByteArray) ([] : List (S65))).bind fun t106 => (some (t106.toList == ([10, 1, 120, 18, 1, 121, 34, 3, 78, 101, 103] : List UInt8)))) = some r := by rw [if_pos rfl] at H; exact H
   clear H; have H := H1; clear H1; obtain ⟨y103, hy103⟩ : ∃ y_ : List ByteArray, y_ = (([(⟨#[120]⟩ : ByteArray)] : List ByteArray)) := ⟨_, rfl⟩; replace H : ((pbnode_PutNode.f k (⟨#[78, 101, 103]⟩ : ByteArray) y103 (⟨#[121]⟩ : ByteArray) ([] : List (S65))).bind fun t106 => (some (t106.toList == ([10, 1, 120, 18, 1, 121, 34, 3, 78, 101, 103] : List UInt8)))) = some r := by first | (rw [hy103]; with_reducible exact H) | (have H2_ := (Option.bind_some _ _).symm.trans H; rw [hy103]; with_reducible exact H2_) | (have H2_ := (Option.bind_some _ _).symm.trans H; with_reducible exact H2_) | with_reducible exact H | (rw [hy103]; exact H) | exact H
   have Ny103 := mk0 hy103; clear hy103; replace H := bnd H; obtain ⟨t106, A5, H⟩ := H; obtain rfl := Option.some.inj H
   go_enter Tryz.func5, Tryz.ntmps5
   go_wp2_with (first | ((with_reducible refine gate_callee (f := 19) rfl ?_); refine glE (some 1) rfl rfl Tryz.func19 (by kernel_rfl) rfl #[] rfl ?_; (with_reducible refine (agatelaw03_Awake_s.calls  true _ A1.out).mono ?_); rintro e w6 ⟨rfl, hb⟩; refine ⟨_, rfl, ?_⟩; replace HB := hbS HB hb; (try clear hb); (try clear hk)) | (go_at_call 20; (with_reducible refine (agatelaw10_Awake.calls  true _ A3.out).mono ?_); rintro e w7 ⟨rfl, hb⟩; replace HB := hbS HB hb; (try clear hb); (try clear hk)) | ((with_reducible refine gate_dst (N := 6) rfl ?_); (try (refine gate_guard (by rfl) ?_; dsimp only)); refine Kd.R_lit Kd.string _ 9 ?hg (N := 6) ?hd (xs := ([(⟨#[120]⟩ : ByteArray)] : List ByteArray)) (inner := [.string (⟨#[120]⟩ : ByteArray)]) (ok := fun _ => True) (okp := fun _ => True) ?hr ?hp (fun _ hk => hk) trivial (Below.refl _ _) (Nat.le_refl _) (by simp) ?_; (case hd => rfl); (case hg => rfl); (case hr => first | (go_simp; done) | (go_simp; rfl)); (case hp => exact (Reps.one (show Kd.M Kd.string _ _ _ (⟨#[120]⟩ : ByteArray) [.string (⟨#[120]⟩ : ByteArray)] from rfl) (Reps.none _ _))); intro v104 w8 ho9 hb hg_ hnew_; clear hg_ hnew_; (first | rw [← Ny103.out] at ho9 | (simp only [Int.reduceToNat] at ho9; rw [← Ny103.out] at ho9)); have HO105 := mk0 (Kd.R_lower ho9 (below_size (hbA HB))); replace HB := hbS HB hb; clear hb ho9; obtain ⟨Ao10, co10, eo10⟩ := Kd.R_slice HO105.out; subst eo10) | (go_at_call 8; (refine (pbnode_PutNode.calls k (⟨#[78, 101, 103]⟩ : ByteArray) _ _ y103 (⟨#[121]⟩ : ByteArray) _ _ ([] : List (S65)) t106 _ ?side1 ?side2 ?side3 ?side4 A5.out).mono ?_); (case side1 => repeat (first | exact (Kd.R_reads' HO105.out).2.2 | (with_reducible refine Kd.C_alloc ?_ _) | (with_reducible refine Kd.C_drewN ?_ _) | (with_reducible refine Kd.C_drew ?_))); (case side2 => exact (Kd.R_reads' HO105.out).2.1); (case side3 => exact Kd.C_nil _ _); (case side4 => exact Nat.le_refl _); rintro e w11 ⟨rfl, hb⟩; replace HO105 := mk0 (Kd.R_below (krA HO105) hb); replace HB := hbS HB hb; (try clear hb); (try clear hk)))
   go_ret
   exact ⟨cl3, hbA HB⟩
  ·
   replace c4 := Bool.eq_false_iff.mpr c4; subst c4; have H1 : (some false) = some r := by rw [if_neg (show ¬ (false = true) by decide)] at H; exact H
   clear H; have H := H1; clear H1; obtain rfl := Option.some.inj H
   go_enter Tryz.func5, Tryz.ntmps5
   go_wp2_with (first | ((with_reducible refine gate_callee (f := 19) rfl ?_); refine glE (some 1) rfl rfl Tryz.func19 (by kernel_rfl) rfl #[] rfl ?_; (with_reducible refine (agatelaw03_Awake_s.calls  true _ A1.out).mono ?_); rintro e w12 ⟨rfl, hb⟩; refine ⟨_, rfl, ?_⟩; replace HB := hbS HB hb; (try clear hb)) | (go_at_call 20; (with_reducible refine (agatelaw10_Awake.calls  false _ A3.out).mono ?_); rintro e w13 ⟨rfl, hb⟩; replace HB := hbS HB hb; (try clear hb)))
   go_ret
   exact ⟨cl3, hbA HB⟩
 ·
  replace c2 := Bool.eq_false_iff.mpr c2; subst c2; have H1 : (some false) = some r := by rw [if_neg (show ¬ (false = true) by decide)] at H; exact H
  clear H; have H := H1; clear H1; obtain rfl := Option.some.inj H
  go_enter Tryz.func5, Tryz.ntmps5
  go_wp2_with (first | ((with_reducible refine gate_callee (f := 19) rfl ?_); refine glE (some 1) rfl rfl Tryz.func19 (by kernel_rfl) rfl #[] rfl ?_; (with_reducible refine (agatelaw03_Awake_s.calls  false _ A1.out).mono ?_); rintro e w14 ⟨rfl, hb⟩; refine ⟨_, rfl, ?_⟩; replace HB := hbS HB hb; (try clear hb)))
  go_ret
  exact ⟨cl3, hbA HB⟩
end Go.Proofs.YthidedmnmdlfkaaGreat.X
namespace Go.Proofs.YthidedmnmdlfkaaGreat.X
open Go.RowKit Go.Proofs.YthidedmnmdlfkaaGreatW.PrintWords Go.Proofs.YthidedmnmdlfkaaGreatW.PrintLast Go.Proofs.YthidedmnmdlfkaaGreatW.PrintMore
attribute [local go_sem] max2_int min2_int max_two min_two max_three min_three max_four min_four
set_option linter.unusedVariables false
set_option linter.unusedSimpArgs false
def agateref07_Name.l0 : Nat → ByteArray → Int → Option (Bool)
  | 0, _, _ => none
  | k + 1, x0, x3 => if x3 < (x0.size : Int) then (if 0 ≤ x3 then (if (bt x0 x3) < 33 then (some false) else (if (bt x0 x3) > 126 then (some false) else (agateref07_Name.l0 k x0 (wrap64 (x3 + 1))))) else (none)) else (if (x0.size : Int) ≥ 1 then (some (decide ((x0.size : Int) ≤ 64))) else (some false))
def agateref07_Name.f (k : Nat) (a0 : ByteArray) : Option (Bool) := agateref07_Name.l0 k a0 0
set_option maxHeartbeats 8000000 in
set_option maxRecDepth 100000 in
theorem agateref07_Name.calls (k : Nat) (a0 : ByteArray) (r : Bool) (w : World) (h : agateref07_Name.f k a0 = some r) :
    Calls Tryz.prog 12 #[.string a0] w fun e w' => e = .returned (.bool r) ∧ Drawn0 w w' := by
  have H : (agateref07_Name.l0 k a0 0) = some r := h; clear h; have H' := mk0 H; clear H
  go_enter Tryz.func12, Tryz.ntmps12
  go_wp2
  go_loopg [3] k (fun kq v3 w' => ∃ (x3_1 : Int), v3 = .int .i64 x3_1 ∧ Aside0 (agateref07_Name.l0 kq a0 x3_1 = some r) ∧ Aside0 (kq ≤ k) ∧ Drawn0 w w')
  case atStart => exact ⟨(0), cl0, H', ⟨Nat.le_refl _⟩, by repeat (first | exact Drawn0.refl _ | apply Drawn0.step)⟩
  case round =>
    clear H'; obtain ⟨x3_1, rfl, HA, HK1, ⟨m1, rfl⟩⟩ := hrel
    cases gk with
    | zero => exact absurd HA.out (by simp [agateref07_Name.l0])
    | succ k1 =>
      have H := HA.out; clear HA
      simp only [agateref07_Name.l0] at H
      by_cases c2 : x3_1 < (a0.size : Int)
      · rw [if_pos c2] at H
        have c2b0 := decide_eq_true c2; clear c2
        by_cases c3 : 0 ≤ x3_1
        · rw [if_pos c3] at H
          have c3b0 := decide_eq_true c3; clear c3
          by_cases c5 : (bt a0 x3_1) < 33
          · rw [if_pos c5] at H
            have c5b0 := decide_eq_true c5; clear c5; obtain rfl := Option.some.inj H; have p4 : 0 ≤ (x3_1 : Int) := ofd; have q4 : x3_1 < (a0.size : Int) := ofd; have hx4 := bt_at a0 x3_1; replace p4 := eq_true p4; replace q4 := eq_true q4
            go_wp2
            go_ret
            exact ⟨by first | rfl | (simp; done) | (simp [*]; done), by repeat (first | exact Drawn0.refl _ | apply Drawn0.step)⟩
          · rw [if_neg c5] at H
            have c5b0 := decide_eq_false c5; clear c5
            by_cases c7 : (bt a0 x3_1) > 126
            · rw [if_pos c7] at H
              have c7b0 := decide_eq_true c7; clear c7; obtain rfl := Option.some.inj H; have p4 : 0 ≤ (x3_1 : Int) := ofd; have q4 : x3_1 < (a0.size : Int) := ofd; have hx4 := bt_at a0 x3_1; replace p4 := eq_true p4; replace q4 := eq_true q4; have p6 : 0 ≤ (x3_1 : Int) := ofd; have q6 : x3_1 < (a0.size : Int) := ofd; have hx6 := bt_at a0 x3_1; replace p6 := eq_true p6; replace q6 := eq_true q6
              go_wp2
              go_ret
              exact ⟨by first | rfl | (simp; done) | (simp [*]; done), by repeat (first | exact Drawn0.refl _ | apply Drawn0.step)⟩
            · rw [if_neg c7] at H
              have c7b0 := decide_eq_false c7; clear c7; have H' := mk0 H; clear H; have p4 : 0 ≤ (x3_1 : Int) := ofd; have q4 : x3_1 < (a0.size : Int) := ofd; have hx4 := bt_at a0 x3_1; replace p4 := eq_true p4; replace q4 := eq_true q4; have p6 : 0 ≤ (x3_1 : Int) := ofd; have q6 : x3_1 < (a0.size : Int) := ofd; have hx6 := bt_at a0 x3_1; replace p6 := eq_true p6; replace q6 := eq_true q6
              go_wp2
              go_roundg k1
              case measure => have := HK1.out; omega
              case rel => exact ⟨(wrap64 (x3_1 + 1)), cl0, H', cl2 HK1, by repeat (first | exact Drawn0.refl _ | apply Drawn0.step)⟩
        · rw [if_neg c3] at H; exact ne0 H
      · rw [if_neg c2] at H
        have c2b0 := decide_eq_false c2; clear c2
        by_cases c8 : (a0.size : Int) ≥ 1
        · rw [if_pos c8] at H
          have c8b0 := decide_eq_true c8; have c8b1 : decide (1 ≤ a0.size) = true := decide_eq_true (by omega); clear c8; obtain rfl := Option.some.inj H
          go_wp2
          go_ret
          exact ⟨by first | rfl | (simp; done) | (simp [*]; done), by repeat (first | exact Drawn0.refl _ | apply Drawn0.step)⟩
        · rw [if_neg c8] at H
          have c8b0 := decide_eq_false c8; have c8b1 : decide (1 ≤ a0.size) = false := decide_eq_false (by omega); clear c8; obtain rfl := Option.some.inj H
          go_wp2
          go_ret
          exact ⟨by first | rfl | (simp; done) | (simp [*]; done), by repeat (first | exact Drawn0.refl _ | apply Drawn0.step)⟩
def agateref07_Name_s.f (a0 : ByteArray) : Option Bool := if a0.size ≤ 140737488351232 then some (nameR a0) else none
theorem agateref07_Name_eval (s : ByteArray) (hs : s.size ≤ 140737488351232) (d : Nat) : ∀ (k i : Nat), s.size - i = d → i ≤ s.size → d < k →
    agateref07_Name.l0 k s (i : Int) = some (((ns s).drop i).all (fun c => decide (33 ≤ c ∧ c ≤ 126)) && decide (1 ≤ s.size ∧ s.size ≤ 64)) := by
  induction d with
  | zero =>
    intro k i hd hi hk
    obtain ⟨k, rfl⟩ : ∃ m, k = m + 1 := ⟨k - 1, by omega⟩
    simp only [agateref07_Name.l0]
    rw [if_neg (by omega), ns_drop_end s i (by omega)]
    by_cases h0 : (s.size : Int) ≥ 1
    · rw [if_pos h0]
      simp only [List.all_nil, Bool.true_and]
      congr 1
      exact decide_eq_decide.2 ⟨fun h => ⟨by omega, by omega⟩, fun h => by omega⟩
    · rw [if_neg h0, show decide (1 ≤ s.size ∧ s.size ≤ 64) = false from decide_eq_false (by omega)]; rfl
  | succ d ih =>
    intro k i hd hi hk
    obtain ⟨k, rfl⟩ : ∃ m, k = m + 1 := ⟨k - 1, by omega⟩
    have hlt : i < s.size := by omega
    have hb : bt s (i : Int) = ((s[i]'hlt).toNat : Int) := bt_ns s i hlt
    simp only [agateref07_Name.l0]
    rw [if_pos (by omega), if_pos (by omega), hb, ns_drop s i hlt, List.all_cons]
    by_cases h1 : ((s[i]'hlt).toNat : Int) < 33
    · rw [if_pos h1, show decide (33 ≤ (s[i]'hlt).toNat ∧ (s[i]'hlt).toNat ≤ 126) = false from decide_eq_false (by omega)]; rfl
    · rw [if_neg h1]
      by_cases h2 : ((s[i]'hlt).toNat : Int) > 126
      · rw [if_pos h2, show decide (33 ≤ (s[i]'hlt).toNat ∧ (s[i]'hlt).toNat ≤ 126) = false from decide_eq_false (by omega)]; rfl
      · rw [if_neg h2, show decide (33 ≤ (s[i]'hlt).toNat ∧ (s[i]'hlt).toNat ≤ 126) = true from decide_eq_true (by omega), Bool.true_and, wrap64_id (by omega) (by omega)]
        exact ih k (i + 1) (by omega) (by omega) (by omega)
theorem agateref07_Name_s.ev (a0 : ByteArray) (r) (h : agateref07_Name_s.f a0 = some r) : ∃ k, agateref07_Name.f k a0 = some r := by
  unfold agateref07_Name_s.f at h
  split at h
  · rename_i hs
    have := agateref07_Name_eval a0 hs a0.size (a0.size + 1) 0 (by omega) (by omega) (by omega)
    rw [List.drop_zero] at this
    exact ⟨a0.size + 1, this.trans h⟩
  · cases h
set_option maxHeartbeats 1000000 in
theorem agateref07_Name_s.calls (a0 : ByteArray) (r : Bool) (w : World) (h : agateref07_Name_s.f a0 = some r) :
    Calls Tryz.prog 12 #[.string a0] w fun e w' => e = .returned (.bool r) ∧ Drawn0 w w' := by
  obtain ⟨k, hk⟩ := agateref07_Name_s.ev a0 _ h
  exact agateref07_Name.calls k a0 r w hk
def agatelaw10_Infos.l0 : Nat → List (S42) → List (S29) → Int → Int → Option ((List (S42)))
 | 0, _, _, _, _ => none
 | k + 1, x3, x6, x7, x8 => if x8 < x7 then (if 0 ≤ x8 then (if x8 < (x6.length : Int) then (if x3.length < 2932031007402 then (agatelaw10_Infos.l0 k (x3 ++ [(⟨(rd_T29 x6 x8).f0, (rd_T29 x6 x8).f1, (rd_T29 x6 x8).f2⟩ : S42)]) x6 x7 (wrap64 (x8 + 1))) else (none)) else (none)) else (none)) else (some x3)
def agatelaw10_Infos.f (k : Nat) (l0 : List (S29)) : Option ((List (S42))) := agatelaw10_Infos.l0 k ([] : List (S42)) l0 (l0.length : Int) 0
set_option maxHeartbeats 8000000 in
set_option maxRecDepth 100000 in
theorem agatelaw10_Infos.calls (k : Nat) (P0_ : Nat → Prop) (A0 : Option Addr) (c0 : Nat) (l0 : List (S29)) (r : List (S42)) (w : World) (hs0 : Kd.V k29 29 w w.heap.size (fun k_ => P0_ k_) (.slice A0 l0.length c0) l0) (h : agatelaw10_Infos.f k l0 = some r) :
  Calls Tryz.prog 7 #[.slice A0 l0.length c0] w fun e w' => ∃ v0_ : Value, e = .returned (v0_) ∧ Kd.N k42 42 w' w.heap.size (fun k_ => (P0_ k_ ∨ w.heap.size ≤ k_)) v0_ r ∧ Below w.heap.size w w' := by
 have hu29 := Tryz.underlying29; have hu42 := Tryz.underlying42; have HO0 := mk0 (show Kd.V k29 29 w w.heap.size (fun k_ => (P0_ k_ ∨ w.heap.size ≤ k_)) (.slice A0 l0.length c0) l0 from Kd.V_mono hs0 (fun k_ hk => .inl hk)); have HB := mk0 (Below.refl w.heap.size w); have H : (agatelaw10_Infos.l0 k ([] : List (S42)) l0 (l0.length : Int) 0) = some r := h; clear h; have H' := mk0 H; clear H
 go_enter Tryz.func7, Tryz.ntmps7
 go_wp2
 go_loopg [3, 8] k (fun kq v3 v8 w' => ∃ (x3_1 : List (S42)) (x8_1 : Int), v8 = .int .i64 x8_1 ∧ Aside0 (agatelaw10_Infos.l0 kq x3_1 l0 (l0.length : Int) x8_1 = some r) ∧ Aside0 (kq ≤ k) ∧ Aside0 (Kd.N k42 42 w' w.heap.size (fun k_ => (P0_ k_ ∨ w.heap.size ≤ k_)) v3 x3_1) ∧ Aside0 (Kd.V k29 29 w' w.heap.size (fun k_ => (P0_ k_ ∨ w.heap.size ≤ k_) ∧ some k_ ≠ (v3 : Value).ownBlock) (.slice A0 l0.length c0) l0) ∧ Aside0 (Below w.heap.size w w'))
 case atStart => exact ⟨(([] : List (S42))), (0), cl0, H', ⟨Nat.le_refl _⟩, ⟨by first | exact Kd.S_nil _ _ _ _ _ | exact Kd.N_nil _ _ _ _ _ | exact Kd.V_nil _ _ _ _ _ | exact Kd.Q_nil _ _ _ _ _ | exact Kd.R_nil _ _ _ _ _⟩, ⟨by (with_reducible repeat (first | apply Kd.V_alloc | apply Kd.V_drewN | apply Kd.V_drew)); exact Kd.V_mono HO0.out (fun _ hk => ⟨hk, (by simp [Value.ownBlock])⟩)⟩, ⟨hbA HB⟩⟩
 case round =>
  clear H'; obtain ⟨x3_1, x8_1, rfl, HA, HK1, HO_3, HO_6, HB⟩ := hrel
  cases gk with
  | zero => exact absurd HA.out (by simp [agatelaw10_Infos.l0])
  | succ k1 =>
   have H := HA.out; clear HA
   simp only [agatelaw10_Infos.l0] at H
   by_cases c2 : x8_1 < (l0.length : Int)
   ·
    rw [if_pos c2] at H; have c2b0 := decide_eq_true c2; clear c2; replace H := ifS H; obtain ⟨c3, H⟩ := H; have c3b0 := decide_eq_true c3; clear c3
    by_cases c4 : x8_1 < (l0.length : Int)
    ·
     rw [if_pos c4] at H; have c4b0 := decide_eq_true c4; clear c4; replace H := ifS H; obtain ⟨c5, H⟩ := H; have LMc5 := mk0 c5; clear c5; obtain ⟨y103, hy103⟩ : ∃ y_ : List (S42), y_ = (x3_1 ++ [(⟨(rd_T29 l0 x8_1).f0, (rd_T29 l0 x8_1).f1, (rd_T29 l0 x8_1).f2⟩ : S42)]) := ⟨_, rfl⟩; replace H : (agatelaw10_Infos.l0 k1 y103 l0 (l0.length : Int) (wrap64 (x8_1 + 1))) = some r := by first | (rw [hy103]; with_reducible exact H) | (have H2_ := (Option.bind_some _ _).symm.trans H; rw [hy103]; with_reducible exact H2_) | (have H2_ := (Option.bind_some _ _).symm.trans H; with_reducible exact H2_) | with_reducible exact H | (rw [hy103]; exact H) | exact H
     have Ny103 := mk0 hy103; clear hy103; have H' := mk0 H; clear H; have p101 : 0 ≤ (x8_1 : Int) := ofd; have q101 : x8_1 < (l0.length : Int) := ofd; obtain ⟨ad101, A101_2, c101_2, e101, hx101_0, hx101_1, hx101_2, hl101_2, hi101_2⟩ := at_T29 (Kd.V_reads' HO_6.out).2.2 x8_1 p101 q101; cases e101; obtain ⟨ce101, hce101, hMe101, hcc101⟩ := Kd.V_get HO_6.out z29 x8_1 p101 (by first | exact q101 | exact ofd | (have e_ := (Kd.V_reads' HO_6.out).1; omega))
     obtain ⟨ua101_2, uc101_2, rfl, ul101_2, ge101_2⟩ := k29_openF hMe101; have hv101_2 := hcc101 2 _ rfl
     rw [add_field _ _ 2 (by omega)] at hv101_2
     replace hv101_2 := Option.some.inj (hv101_2.symm.trans hx101_2); injection hv101_2 with hva_ hvn_ hvc_
     rw [hva_] at ge101_2
     rw [hvc_] at ul101_2
     have HL101_2 := mk0 (show Kd.V (Kd.int .i64) 2 _ w.heap.size _ _ ((rd_T29 l0 x8_1).f2) from Kd.V_mk ul101_2 ge101_2); clear hva_ hvn_ hvc_ ge101_2 ul101_2; clear hcc101 hce101; have HR101_2 := mk0 hi101_2; have HC101_2 := mk0 hl101_2; clear hi101_2 hl101_2; replace p101 := eq_true p101; replace q101 := eq_true q101
     go_wp2_with (first | ((with_reducible refine gate_dst (N := 5) rfl ?_); refine boxE (N := 5) (cs := #[.string (⟨#[]⟩ : ByteArray), .int .i64 0, .slice none 0 0]) (t := 29) ?_; intro gb102 hg w6 hbox hb; replace HO_3 := mk0 (Kd.N_below (Kd.N_elderB (by (with_reducible repeat (first | apply Kd.N_alloc | apply Kd.N_drewN | apply Kd.N_drew)); exact HO_3.out) gb102 (Nat.le_of_eq hg.symm)) hb); replace HO_6 := mk0 (Kd.V_below (Kd.V_elderB (by (with_reducible repeat (first | apply Kd.V_alloc | apply Kd.V_drewN | apply Kd.V_drew)); exact HO_6.out) gb102 (Nat.le_of_eq hg.symm)) hb); replace HL101_2 := mk0 (Kd.V_below (Kd.V_elderB (by (with_reducible repeat (first | apply Kd.V_alloc | apply Kd.V_drewN | apply Kd.V_drew)); exact HL101_2.out) gb102 (Nat.le_of_eq hg.symm)) hb); replace HR101_2 := mk0 (Kd.C_below (by repeat (first | (with_reducible exact HR101_2.out) | (with_reducible refine Kd.C_alloc ?_ _) | (with_reducible refine Kd.C_drewN ?_ _) | (with_reducible refine Kd.C_drew ?_) | exact HR101_2.out)) hb); have BK102 := mk0 hbox; have GW102 := gwS HB hg; have GE102 := gwS HB hg; replace HB := hbS HB hb; clear hb hbox hg; obtain ⟨hcz7_0, hcz7_1, hcz7_2⟩ := cz3 BK102; have hfz7_0 := fz BK102 0; have hfz7_1 := fz BK102 1; have hfz7_2 := fz BK102 2) | ((with_reducible refine gate_store (t := 29) (p := 5) rfl ?_); refine store_event (t := 29) (p := 5) (v := ?vo_w8) (w1 := (((w6.setCell ⟨gb102, 0, none⟩ (.string ((rd_T29 l0 x8_1).f0))).setCell ⟨gb102, 1, none⟩ (.int .i64 ((rd_T29 l0 x8_1).f1))).setCell ⟨gb102, 2, none⟩ (.slice A101_2 ((rd_T29 l0 x8_1).f2).length c101_2))) ?hg ?ho ?hn ?hr ?_; (case ho => rfl); (case hg => rfl); (case hn => rfl); (case hr => first | (go_simp; done) | (go_simp; rfl)); intro w8 hw; have n0_ : Aside0 (Kd.N k42 42 w8 w.heap.size (fun k_ => (P0_ k_ ∨ w.heap.size ≤ k_) ∧ k_ ≠ gb102) u3 x3_1) := ⟨(by rw [hw]; exact (by (with_reducible repeat (first | apply Kd.N_alloc | apply Kd.N_drewN | apply Kd.N_drew)); exact Kd.N_mono (Kd.N_far (p := ⟨gb102, 2, none⟩) (Kd.N_far (p := ⟨gb102, 1, none⟩) (Kd.N_far (p := ⟨gb102, 0, none⟩) (Kd.N_mono HO_3.out (fun k_ hk => (⟨hk, hk.2⟩ : _ ∧ k_ ≠ gb102))) (fun _ hk => hk.2) (.string ((rd_T29 l0 x8_1).f0))) (fun _ hk => hk.2) (.int .i64 ((rd_T29 l0 x8_1).f1))) (fun _ hk => hk.2) (.slice A101_2 ((rd_T29 l0 x8_1).f2).length c101_2)) (fun _ hk => ⟨hk.1.1, hk.1.2⟩)))⟩; have n1_ : Aside0 (Kd.V k29 29 w8 w.heap.size (fun k_ => (P0_ k_ ∨ w.heap.size ≤ k_) ∧ some k_ ≠ (u3 : Value).ownBlock ∧ k_ ≠ gb102) (.slice (some ad101) l0.length c0) l0) := ⟨(by rw [hw]; exact (by (with_reducible repeat (first | apply Kd.V_alloc | apply Kd.V_drewN | apply Kd.V_drew)); exact Kd.V_mono (Kd.V_far (p := ⟨gb102, 2, none⟩) (Kd.V_far (p := ⟨gb102, 1, none⟩) (Kd.V_far (p := ⟨gb102, 0, none⟩) (Kd.V_mono HO_6.out (fun k_ hk => (⟨hk, hk.2⟩ : _ ∧ k_ ≠ gb102))) (fun _ hk => hk.2) (.string ((rd_T29 l0 x8_1).f0))) (fun _ hk => hk.2) (.int .i64 ((rd_T29 l0 x8_1).f1))) (fun _ hk => hk.2) (.slice A101_2 ((rd_T29 l0 x8_1).f2).length c101_2)) (fun _ hk => ⟨hk.1.1.1, ⟨hk.1.1.2, hk.1.2⟩⟩)))⟩; have n2_ : Aside0 (Kd.V (Kd.int .i64) 2 w8 w.heap.size (fun k_ => (P0_ k_ ∨ w.heap.size ≤ k_) ∧ some k_ ≠ (u3 : Value).ownBlock ∧ k_ ≠ gb102) (.slice A101_2 ((rd_T29 l0 x8_1).f2).length c101_2) ((rd_T29 l0 x8_1).f2)) := ⟨(by rw [hw]; exact (by (with_reducible repeat (first | apply Kd.V_alloc | apply Kd.V_drewN | apply Kd.V_drew)); exact Kd.V_mono (Kd.V_far (p := ⟨gb102, 2, none⟩) (Kd.V_far (p := ⟨gb102, 1, none⟩) (Kd.V_far (p := ⟨gb102, 0, none⟩) (Kd.V_mono HL101_2.out (fun k_ hk => (⟨hk, hk.2⟩ : _ ∧ k_ ≠ gb102))) (fun _ hk => hk.2) (.string ((rd_T29 l0 x8_1).f0))) (fun _ hk => hk.2) (.int .i64 ((rd_T29 l0 x8_1).f1))) (fun _ hk => hk.2) (.slice A101_2 ((rd_T29 l0 x8_1).f2).length c101_2)) (fun _ hk => ⟨hk.1.1.1, ⟨hk.1.1.2, hk.1.2⟩⟩)))⟩; have n3_ : Aside0 (w8.heap[gb102]? = some (.cells #[.string ((rd_T29 l0 x8_1).f0), .int .i64 ((rd_T29 l0 x8_1).f1), .slice A101_2 ((rd_T29 l0 x8_1).f2).length c101_2] 29 (0, 0))) := ⟨(by rw [hw]; exact (bkW BK102))⟩; have n4_ : Aside0 (Below w.heap.size w w8) := ⟨(by rw [hw]; exact (hbA HB))⟩; clear hw; clear HO_3; clear HO_6; clear HL101_2; clear BK102; clear HB; have HO_3 := n0_; have HO_6 := n1_; have HL101_2 := n2_; have BK102 := n3_; have HB := n4_; clear n0_ n1_ n2_ n3_ n4_; obtain ⟨hcz9_0, hcz9_1, hcz9_2⟩ := cz3 BK102; have hfz9_0 := fz BK102 0; have hfz9_1 := fz BK102 1; have hfz9_2 := fz BK102 2) | ((with_reducible refine gate_builtin (b := .append) (xs := #[.tmp 12, .tmp 20]) rfl ?_); at_builtin; refine Kd.N_append k42 (w0 := w) w.heap.size rfl (.tmp 12) (.tmp 20) 43 42 (.agg #[(.string ⟨#[]⟩), (.int .i64 0), (.slice none 0 0)]) 48 rfl Tryz.underlying43 info42 rfl (by decide) (by omega) u3 x3_1 (⟨(rd_T29 l0 x8_1).f0, (rd_T29 l0 x8_1).f1, (rd_T29 l0 x8_1).f2⟩ : S42) [.string ((rd_T29 l0 x8_1).f0), .int .i64 ((rd_T29 l0 x8_1).f1), .slice A101_2 ((rd_T29 l0 x8_1).f2).length c101_2] (fun k_ => (P0_ k_ ∨ w.heap.size ≤ k_) ∧ k_ ≠ gb102) (fun k_ => ((fun k_ => (P0_ k_ ∨ w.heap.size ≤ k_) ∧ k_ ≠ gb102)) k_ ∧ some k_ ≠ (u3 : Value).ownBlock) rfl rfl ?aP (fun _ hk => hk) ?aF ?aO ?aB ?aS ?aL ?_; (case aP => exact (k42_mkF _ _ (⟨(rd_T29 l0 x8_1).f0, (rd_T29 l0 x8_1).f1, (rd_T29 l0 x8_1).f2⟩ : S42) (Kd.V_reads' (Kd.V_mono (ok' := (fun k_ => ((fun k_ => (P0_ k_ ∨ w.heap.size ≤ k_) ∧ k_ ≠ gb102)) k_ ∧ some k_ ≠ (u3 : Value).ownBlock)) (HL101_2.out) (fun k_ hk => ⟨⟨hk.1, hk.2.2⟩, hk.2.1⟩))).2.1 (Kd.V_F (Kd.V_mono (ok' := (fun k_ => ((fun k_ => (P0_ k_ ∨ w.heap.size ≤ k_) ∧ k_ ≠ gb102)) k_ ∧ some k_ ≠ (u3 : Value).ownBlock)) (HL101_2.out) (fun k_ hk => ⟨⟨hk.1, hk.2.2⟩, hk.2.1⟩))))); (case aB => exact (hbA HB)); (case aF => exact (fun k_ hk => ⟨(.inr (Nat.le_trans (below_size (hbA HB)) hk)), Kd.freshB (g := gb102) (bkA BK102) k_ hk⟩)); (case aO => exact (by (with_reducible repeat (first | apply Kd.N_alloc | apply Kd.N_drewN | apply Kd.N_drew)); exact HO_3.out)); (case aS => exact (below_size (hbA HB))); (case aL => have := LMc5.out; omega); intro v104 w10 ho hb hg hat; rw [← Ny103.out] at ho; replace HO_6 := mk0 (Kd.V_afterv (ok := (fun k_ => (P0_ k_ ∨ w.heap.size ≤ k_) ∧ k_ ≠ gb102)) (by (with_reducible repeat (first | apply Kd.V_alloc | apply Kd.V_drewN | apply Kd.V_drew)); exact Kd.V_mono HO_6.out (fun _ hk => ⟨⟨hk.1, hk.2.2⟩, hk.2.1⟩)) hg hat); replace HL101_2 := mk0 (Kd.V_afterv (ok := (fun k_ => (P0_ k_ ∨ w.heap.size ≤ k_) ∧ k_ ≠ gb102)) (by (with_reducible repeat (first | apply Kd.V_alloc | apply Kd.V_drewN | apply Kd.V_drew)); exact Kd.V_mono HL101_2.out (fun _ hk => ⟨⟨hk.1, hk.2.2⟩, hk.2.1⟩)) hg hat); replace BK102 := mk0 (blk_grown (g := gb102) (bkA BK102) hg (Kd.N_ne HO_3.out BK102.out (by decide))); replace HB := mk0 hb; have HO105 := mk0 ho; clear HO_3; clear ho hb hg hat))
     go_roundg k1
     case measure => have := HK1.out; omega
     case rel => exact ⟨(y103), (wrap64 (x8_1 + 1)), cl0, H', cl2 HK1, ⟨by (with_reducible repeat (first | apply Kd.N_alloc | apply Kd.N_drewN | apply Kd.N_drew)); exact Kd.N_mono HO105.out (fun _ hk => hk.1)⟩, ⟨by (with_reducible repeat (first | apply Kd.V_alloc | apply Kd.V_drewN | apply Kd.V_drew)); exact Kd.V_mono HO_6.out (fun _ hk => ⟨hk.1.1, hk.2⟩)⟩, ⟨hbA HB⟩⟩
    ·
     exact absurd (of_decide_eq_true c2b0) c4
   ·
    rw [if_neg c2] at H; have c2b0 := decide_eq_false c2; clear c2; obtain rfl := Option.some.inj H
    go_wp2
    go_ret
    exact ⟨_, cl3, by (with_reducible repeat (first | apply Kd.N_alloc | apply Kd.N_drewN | apply Kd.N_drew)); exact HO_3.out, hbA HB⟩
end Go.Proofs.YthidedmnmdlfkaaGreat.X
