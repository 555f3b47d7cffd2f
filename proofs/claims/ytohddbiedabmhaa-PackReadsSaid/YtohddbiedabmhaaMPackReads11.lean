import Derived.Test.YtohddbiedabmhaaMPackReads0
import Derived.Test.YtohddbiedabmhaaMPackReads10
import Derived.Test.YtohddbiedabmhaaMPackReads2
import Derived.Test.YtohddbiedabmhaaMPackReads1
import Derived.Test.YtohddbiedabmhaaMPackReads8
-- by xprint.py, a program of this session, over the kit's print.py
namespace Go.Proofs.Ytohddbiedabmhaa.X
open Go.RowKit Go.Proofs.YtohddbiedabmhaaW.PrintWords Go.Proofs.YtohddbiedabmhaaW.PrintLast Go.Proofs.YtohddbiedabmhaaW.PrintMore
attribute [local go_sem] max2_int min2_int max_two min_two max_three min_three max_four min_four   -- for this text's walks alone
set_option linter.unusedVariables false
set_option linter.unusedSimpArgs false

def agateref03_Ints_s.f (l0 : List (S50)) (a1 : Int) : Option (List Int × Int) := if l0.length ≤ 3518437208883 ∧ ∀ x ∈ l0, x.f3.size ≤ 140737488351232 then some ((intsL ((l0.filter fun x => x.f0 == a1).map flR) []).1, ((intsL ((l0.filter fun x => x.f0 == a1).map flR) []).2 : Int)) else none
theorem refInts_inner (l : List (S50)) (a1 : Int) (i : Int) (f0 f2 : Int) (f3 : ByteArray) (d : Nat) : ∀ (out : List Int) (b : ByteArray) (cnt : Int), b.size ≤ d → b.size ≤ 140737488351232 → out.length ≤ 65536 →
    ((packedF d out b).2 ≠ 0 → ∃ k, agateref03_Ints.l1 k l a1 out i b cnt f0 2 f2 f3 = some ([], ((packedF d out b).2 : Int))) ∧
    ((packedF d out b).2 = 0 → ∀ k0 r, agateref03_Ints.l0 k0 l a1 (packedF d out b).1 (wrap64 (i + 1)) = some r → ∃ k, agateref03_Ints.l1 k l a1 out i b cnt f0 2 f2 f3 = some r) := by
  induction d with
  | zero =>
    intro out b cnt hb hs ho
    refine ⟨fun h => absurd rfl h, fun _ k0 r h => ⟨k0 + 2, ?_⟩⟩
    rw [agateref03_Ints.l1, if_neg (by decide), if_pos rfl, agateref03_Ints.j3, if_neg (by rw [decide_eq_true_iff]; omega)]
    exact h
  | succ d ih =>
    intro out b cnt hb hs ho
    rw [packedF]
    by_cases h0 : b.size = 0
    · rw [if_pos h0]
      refine ⟨fun h => absurd rfl h, fun _ k0 r h => ⟨k0 + 2, ?_⟩⟩
      rw [agateref03_Ints.l1, if_neg (by decide), if_pos rfl, agateref03_Ints.j3, if_neg (by rw [decide_eq_true_iff]; omega)]
      exact h
    · rw [if_neg h0]
      have hg := vRead_pos b
      have step : ∀ k, agateref03_Ints.l1 (k + 2) l a1 out i b cnt f0 2 f2 f3 = (agateref01_Read_s.f b).bind fun bt103 => (if bt103.2.2 = 0 then (if 0 ≤ bt103.2.1 then (if bt103.2.1 ≤ (b.size : Int) then (if (out.length : Int) = 65536 then (some (([] : List Int), 7)) else (if out.length < 17592186044416 then (agateref03_Ints.l1 k l a1 (out ++ [wrap64 (bt103.1)]) i (b.extract (bt103.2.1 : Int).toNat b.size) (wrap64 (cnt + 1)) f0 2 f2 f3) else (none))) else (none)) else (none)) else (some (([] : List Int), bt103.2.2))) := by
        intro k
        rw [agateref03_Ints.l1, if_neg (by decide), if_pos rfl, agateref03_Ints.j3, if_pos (by rw [decide_eq_true_iff]; omega), if_pos rfl]
      obtain ⟨⟨y, n, e⟩, hr⟩ : ∃ x, vRead b = x := ⟨_, rfl⟩
      simp only [agateref01_Read_s.f, Option.bind_some, hr] at hg step ⊢
      by_cases he : e = 0
      · subst he
        have g := hg rfl
        rw [if_neg (show ¬ ((0 : Nat) ≠ 0) by simp)]
        by_cases hl : 65536 ≤ out.length
        · rw [if_pos hl]
          refine ⟨fun _ => ⟨2, ?_⟩, fun h => absurd h (by decide)⟩
          rw [step 0, if_pos (by rfl), if_pos (by omega), if_pos (by omega), if_pos (by omega)]; rfl
        · rw [if_neg hl]
          have hsz := extract_size' b n g.2.1
          obtain ⟨i1, i2⟩ := ih (out ++ [wrap64 (y : Int)]) (b.extract n b.size) (wrap64 (cnt + 1)) (by rw [hsz]; omega) (by rw [hsz]; omega) (by simp; omega)
          have hst : ∀ k, agateref03_Ints.l1 (k + 2) l a1 out i b cnt f0 2 f2 f3 = agateref03_Ints.l1 k l a1 (out ++ [wrap64 (y : Int)]) i (b.extract n b.size) (wrap64 (cnt + 1)) f0 2 f2 f3 := by
            intro k
            rw [step k, if_pos (by rfl), if_pos (by omega), if_pos (by omega), if_neg (by omega), if_pos (by omega), Int.toNat_natCast]
          refine ⟨fun h => ?_, fun h k0 r hk => ?_⟩
          · obtain ⟨k, hk⟩ := i1 h
            exact ⟨k + 2, (hst k).trans hk⟩
          · obtain ⟨k, hk⟩ := i2 h k0 r hk
            exact ⟨k + 2, (hst k).trans hk⟩
      · rw [if_pos he]
        refine ⟨fun _ => ⟨2, ?_⟩, fun h => absurd h he⟩
        rw [step 0, if_neg (by omega)]
theorem refInts_eval (l : List (S50)) (a1 : Int) (hl : l.length ≤ 3518437208883) (hs : ∀ x ∈ l, x.f3.size ≤ 140737488351232) (d : Nat) : ∀ (i : Nat) (out : List Int), l.length - i = d → i ≤ l.length → out.length ≤ 65536 →
    ∃ k, agateref03_Ints.l0 k l a1 out i = some ((intsL (((l.drop i).filter fun x => x.f0 == a1).map flR) out).1, ((intsL (((l.drop i).filter fun x => x.f0 == a1).map flR) out).2 : Int)) := by
  induction d with
  | zero =>
    intro i out hd hi ho
    refine ⟨1, ?_⟩
    rw [agateref03_Ints.l0, if_neg (by omega), List.drop_of_length_le (by omega)]
    rfl
  | succ d ih =>
    intro i out hd hi ho
    have h0 : i < l.length := by omega
    have hsx := hs l[i] (List.getElem_mem _)
    have ew : wrap64 ((i : Int) + 1) = ((i + 1 : Nat) : Int) := by rw [wrap64_id (by omega) (by omega)]; omega
    have step : ∀ k, agateref03_Ints.l0 (k + 1) l a1 out i = if l[i].f0 = a1 then (if l[i].f1 = 0 then agateref03_Ints.j1 k l a1 out i false l[i].f0 l[i].f1 l[i].f2 l[i].f3 else agateref03_Ints.j1 k l a1 out i (l[i].f1 != 2) l[i].f0 l[i].f1 l[i].f2 l[i].f3) else agateref03_Ints.l0 k l a1 out (wrap64 ((i : Int) + 1)) := by
      intro k
      rw [agateref03_Ints.l0, if_pos (by omega), if_pos (by omega)]
      simp only [rdR l i h0]
    rw [List.drop_eq_getElem_cons h0]
    generalize l[i] = x at *
    by_cases hx : x.f0 = a1
    · rw [List.filter_cons_of_pos (by simp [hx]), List.map_cons, intsL]
      by_cases t0 : x.f1 = 0
      · rw [if_pos (show (flR x).2.1 = 0 from t0)]
        have one : ∀ k, agateref03_Ints.l0 (k + 6) l a1 out i = if (out.length : Int) = 65536 then some (([] : List Int), 7) else (if out.length < 17592186044416 then agateref03_Ints.l0 k l a1 (out ++ [wrap64 x.f2]) (wrap64 ((i : Int) + 1)) else none) := by
          intro k
          have w1 : wrap64 (0 + 1) = 1 := wrap64_id (by decide) (by decide)
          rw [step (k + 5), if_pos hx, if_pos t0, agateref03_Ints.j1, if_neg (by decide), t0, agateref03_Ints.l1, if_pos rfl, if_pos (by decide), agateref03_Ints.j3, if_pos rfl, if_neg (by decide), w1]
          by_cases hf : (out.length : Int) = 65536
          · rw [if_pos hf, if_pos hf]
          · rw [if_neg hf, if_neg hf]
            by_cases hq : out.length < 17592186044416
            · rw [if_pos hq, if_pos hq, agateref03_Ints.l1, if_pos rfl, if_neg (by decide), if_neg (by decide), agateref03_Ints.j3, if_neg (by decide)]
            · rw [if_neg hq, if_neg hq]
        by_cases hf : 65536 ≤ out.length
        · rw [if_pos hf]
          exact ⟨6, by rw [one 0, if_pos (by omega)]; rfl⟩
        · rw [if_neg hf]
          obtain ⟨k, hk⟩ := ih (i + 1) (out ++ [wrap64 x.f2]) (by omega) (by omega) (by simp; omega)
          exact ⟨k + 6, by rw [one k, if_neg (by omega), if_pos (by omega), ew]; exact hk⟩
      · rw [if_neg (show ¬ (flR x).2.1 = 0 from t0)]
        by_cases t2 : x.f1 = 2
        · rw [if_pos (show (flR x).2.1 = 2 from t2)]
          have hcv : (flR x).2.2.2 = x.f3 := rfl
          simp only [hcv]
          obtain ⟨i1, i2⟩ := refInts_inner l a1 i x.f0 x.f2 x.f3 x.f3.size out x.f3 0 (Nat.le_refl _) hsx ho
          have two : ∀ k, agateref03_Ints.l0 (k + 2) l a1 out i = agateref03_Ints.l1 k l a1 out i x.f3 0 x.f0 2 x.f2 x.f3 := by
            intro k
            rw [step (k + 1), if_pos hx, if_neg t0, agateref03_Ints.j1, t2, if_neg (by decide)]
          by_cases hz : (packedF x.f3.size out x.f3).2 = 0
          · rw [if_neg (fun h => h hz)]
            obtain ⟨k0, hk0⟩ := ih (i + 1) (packedF x.f3.size out x.f3).1 (by omega) (by omega) (packedF_len _ _ _ ho)
            obtain ⟨k, hk⟩ := i2 hz k0 _ (by rw [ew]; exact hk0)
            exact ⟨k + 2, (two k).trans hk⟩
          · rw [if_pos hz]
            obtain ⟨k, hk⟩ := i1 hz
            exact ⟨k + 2, (two k).trans hk⟩
        · rw [if_neg (show ¬ (flR x).2.1 = 2 from t2)]
          refine ⟨2, ?_⟩
          rw [step 1, if_pos hx, if_neg t0, agateref03_Ints.j1, if_pos (by simp [t2])]; rfl
    · rw [List.filter_cons_of_neg (by simp [hx])]
      obtain ⟨k, hk⟩ := ih (i + 1) out (by omega) (by omega) ho
      exact ⟨k + 1, by rw [step k, if_neg hx, ew]; exact hk⟩
theorem agateref03_Ints_s.ev (l0 : List (S50)) (a1 : Int) (r) (h : agateref03_Ints_s.f l0 a1 = some r) : ∃ k, agateref03_Ints.f k l0 a1 = some r := by
  unfold agateref03_Ints_s.f at h
  split at h
  · rename_i hs
    rw [← h]
    exact refInts_eval l0 a1 hs.1 hs.2 l0.length 0 [] (by omega) (by omega) (by simp)
  · cases h

set_option maxHeartbeats 1000000 in
theorem agateref03_Ints_s.calls (A0 : Option Addr) (c0 : Nat) (l0 : List (S50)) (a1 : Int) (r1 : List Int) (r2 : Int) (w : World) (hr0 : Kd.C k50 w A0 l0.length l0) (hc0 : l0.length ≤ c0) (h : agateref03_Ints_s.f l0 a1 = some (r1, r2)) :
    Calls Try.prog 37 #[.slice A0 l0.length c0, .int .i64 a1] w fun e w' => ∃ v0_ : Value, e = .returned (.tuple #[v0_, .int .i64 r2]) ∧ Kd.R (Kd.int .i64) 2 w' w.heap.size (fun _ => True) v0_ r1 ∧ Below w.heap.size w w' := by
  obtain ⟨k, hk⟩ := agateref03_Ints_s.ev l0 a1 _ h
  exact agateref03_Ints.calls k A0 c0 l0 a1 r1 r2 w hr0 hc0 hk

end Go.Proofs.Ytohddbiedabmhaa.X
-- by xprint.py, a program of this session, over the kit's print.py
namespace Go.Proofs.Ytohddbiedabmhaa.X
open Go.RowKit Go.Proofs.YtohddbiedabmhaaW.PrintWords Go.Proofs.YtohddbiedabmhaaW.PrintLast Go.Proofs.YtohddbiedabmhaaW.PrintMore
attribute [local go_sem] max2_int min2_int max_two min_two max_three min_three max_four min_four   -- for this text's walks alone
set_option linter.unusedVariables false
set_option linter.unusedSimpArgs false

/-! ### agateref01_Put: function 12 -/
def agateref01_Put.f : Nat → Int → Option (List Int)
  | 0, _ => none
  | k + 1, a0 => if a0 < 128 then (some (([(a0) % 256] : List Int))) else ((some (([(IntKind.u64.wrap ((Int.tmod a0 128) + 128)) % 256] : List Int) : List Int)).bind fun y104 => ((agateref01_Put.f k (IntKind.u64.wrap (Int.tdiv a0 128))).bind fun t107 => (if y104.length + t107.length < 140737488355328 then (some (y104 ++ t107)) else (none))))
theorem agateref01_Put.mono_l : ∀ k, (∀ y0, LeO (agateref01_Put.f k y0) (agateref01_Put.f (k + 1) y0))
  | 0 => fun _ r h => by simp [agateref01_Put.f] at h
  | k + 1 => by
    have ih0 := agateref01_Put.mono_l k
    · intro y0
      unfold agateref01_Put.f
      repeat' first
      | (with_reducible exact ih0 _)
      | (with_reducible exact LeO.refl _)
      | (with_reducible exact LeO.none _)
      | (with_reducible refine LeO.ite ?_ ?_)
      | (with_reducible refine LeO.bind ?_ (fun _ => ?_))
      | exact ih0 _
      | exact LeO.none _
      | refine LeO.ite ?_ ?_
      | refine LeO.bind ?_ (fun _ => ?_)
theorem agateref01_Put.mono : ∀ a0 k, LeO (agateref01_Put.f k a0) (agateref01_Put.f (k + 1) a0) := by
  intro a0 k
  have ih0 := agateref01_Put.mono_l k
  exact ih0 a0
set_option maxHeartbeats 8000000 in
set_option maxRecDepth 100000 in
theorem agateref01_Put.calls (k : Nat) : ∀ (a0 : Int) (r : List Int) (w : World) (h : agateref01_Put.f k a0 = some r),
    Calls Try.prog 12 #[.int .u64 a0] w fun e w' => ∃ v0_ : Value, e = .returned (v0_) ∧ Kd.R (Kd.int .u8) 5 w' w.heap.size (fun _ => True) v0_ r ∧ Below w.heap.size w w' := by
  induction k using Nat.strongRecOn with
  | _ k ih =>
  intro a0 r w h
  cases k with
  | zero => exact absurd h (by simp [agateref01_Put.f])
  | succ k =>
  simp only [agateref01_Put.f] at h
  have HB := Aside0.mk (Below.refl w.heap.size w)
  have H : (if a0 < 128 then (some (([(a0) % 256] : List Int))) else ((some (([(IntKind.u64.wrap ((Int.tmod a0 128) + 128)) % 256] : List Int) : List Int)).bind fun y104 => ((agateref01_Put.f k (IntKind.u64.wrap (Int.tdiv a0 128))).bind fun t107 => (if y104.length + t107.length < 140737488355328 then (some (y104 ++ t107)) else (none))))) = some r := h
  clear h
  by_cases c2 : a0 < 128
  · rw [if_pos c2] at H
    have c2b0 : decide (a0 < 128) = true := decide_eq_true c2
    clear c2
    obtain ⟨y101, hy101⟩ : ∃ y_ : List Int, y_ = (([(a0) % 256] : List Int)) := ⟨_, rfl⟩
    replace H : (some y101) = some r := by first | (rw [hy101]; with_reducible exact H) | (have H2_ := (Option.bind_some _ _).symm.trans H; rw [hy101]; with_reducible exact H2_) | (have H2_ := (Option.bind_some _ _).symm.trans H; with_reducible exact H2_) | with_reducible exact H | (rw [hy101]; exact H) | exact H
    have Ny101 := Aside0.mk hy101
    clear hy101
    obtain rfl := Option.some.inj H
    go_enter Try.func12, Try.ntmps12
    go_wp2_with (first | ((with_reducible refine gate_dst (N := 7) rfl ?_); refine Kd.R_lit (Kd.int .u8) _ 5 ?hg (N := 7) ?hd (xs := ([(a0) % 256] : List Int)) (inner := [.int .u8 ((a0) % 256)]) (ok := fun _ => True) (okp := fun _ => True) ?hr ?hp (fun _ hk => hk) trivial (Below.refl _ _) (Nat.le_refl _) (by simp) ?_; (case hd => rfl); (case hg => rfl); (case hr => first | (go_simp; done) | (go_simp; rfl)); (case hp => exact (Reps.one (show Kd.M (Kd.int .u8) _ _ _ ((a0) % 256) [.int .u8 ((a0) % 256)] from rfl) (Reps.none _ _))); intro v102 w3 ho4 hb hg_ hnew_; clear hg_ hnew_; (first | rw [← Ny101.out] at ho4 | (simp only [Int.reduceToNat] at ho4; rw [← Ny101.out] at ho4)); have n0_ := Aside0.mk (Kd.R_lower ho4 (below_size (by repeat (first | (with_reducible first | exact HB.out | apply below_alloc | apply pw_below_drewN | apply below_drew1) | exact HB.out)))); have n1_ := Aside0.mk (below_step (by repeat (first | (with_reducible first | exact HB.out | apply below_alloc | apply pw_below_drewN | apply below_drew1) | exact HB.out)) hb); clear HB; have HO103 := n0_; have HB := n1_; clear n0_ n1_; clear hb ho4))
    go_ret
    exact ⟨_, by first | rfl | (simp [errW_none, errW_some] <;> rfl) | (simp [*, errW_none, errW_some] <;> rfl), by (with_reducible repeat (first | apply Kd.R_alloc | apply Kd.R_drewN | apply Kd.R_drew)); exact HO103.out, by repeat (first | (with_reducible first | exact HB.out | apply below_alloc | apply pw_below_drewN | apply below_drew1) | exact HB.out)⟩
  · rw [if_neg c2] at H
    have c2b0 : decide (a0 < 128) = false := decide_eq_false c2
    clear c2
    obtain ⟨y104, hy104⟩ : ∃ y_ : List Int, y_ = (([(IntKind.u64.wrap ((Int.tmod a0 128) + 128)) % 256] : List Int)) := ⟨_, rfl⟩
    replace H : ((agateref01_Put.f k (IntKind.u64.wrap (Int.tdiv a0 128))).bind fun t107 => (if y104.length + t107.length < 140737488355328 then (some (y104 ++ t107)) else (none))) = some r := by first | (rw [hy104]; with_reducible exact H) | (have H2_ := (Option.bind_some _ _).symm.trans H; rw [hy104]; with_reducible exact H2_) | (have H2_ := (Option.bind_some _ _).symm.trans H; with_reducible exact H2_) | with_reducible exact H | (rw [hy104]; exact H) | exact H
    have Ny104 := Aside0.mk hy104
    clear hy104
    replace H := Option.bind_eq_some_iff.mp H
    obtain ⟨t107, A50, H⟩ := H
    replace H : (if y104.length + t107.length < 140737488355328 then (some (y104 ++ t107)) else (none)) = some r := H
    have A5 := Aside0.mk A50
    clear A50
    by_cases c6 : y104.length + t107.length < 140737488355328
    · rw [if_pos c6] at H
      have LMc6 := Aside0.mk c6
      clear c6
      obtain ⟨y110, hy110⟩ : ∃ y_ : List Int, y_ = (y104 ++ t107) := ⟨_, rfl⟩
      replace H : (some y110) = some r := by first | (rw [hy110]; with_reducible exact H) | (have H2_ := (Option.bind_some _ _).symm.trans H; rw [hy110]; with_reducible exact H2_) | (have H2_ := (Option.bind_some _ _).symm.trans H; with_reducible exact H2_) | with_reducible exact H | (rw [hy110]; exact H) | exact H
      have Ny110 := Aside0.mk hy110
      clear hy110
      obtain rfl := Option.some.inj H
      go_enter Try.func12, Try.ntmps12
      go_wp2_with (first | ((with_reducible refine gate_dst (N := 12) rfl ?_); refine Kd.R_lit (Kd.int .u8) _ 5 ?hg (N := 12) ?hd (xs := ([(IntKind.u64.wrap ((Int.tmod a0 128) + 128)) % 256] : List Int)) (inner := [.int .u8 ((IntKind.u64.wrap ((Int.tmod a0 128) + 128)) % 256)]) (ok := fun _ => True) (okp := fun _ => True) ?hr ?hp (fun _ hk => hk) trivial (Below.refl _ _) (Nat.le_refl _) (by simp) ?_; (case hd => rfl); (case hg => rfl); (case hr => first | (go_simp; done) | (go_simp; rfl)); (case hp => exact (Reps.one (show Kd.M (Kd.int .u8) _ _ _ ((IntKind.u64.wrap ((Int.tmod a0 128) + 128)) % 256) [.int .u8 ((IntKind.u64.wrap ((Int.tmod a0 128) + 128)) % 256)] from rfl) (Reps.none _ _))); intro v105 w7 ho8 hb hg_ hnew_; clear hg_ hnew_; (first | rw [← Ny104.out] at ho8 | (simp only [Int.reduceToNat] at ho8; rw [← Ny104.out] at ho8)); have n0_ := Aside0.mk (Kd.R_lower ho8 (below_size (by repeat (first | (with_reducible first | exact HB.out | apply below_alloc | apply pw_below_drewN | apply below_drew1) | exact HB.out)))); have n1_ := Aside0.mk (below_step (by repeat (first | (with_reducible first | exact HB.out | apply below_alloc | apply pw_below_drewN | apply below_drew1) | exact HB.out)) hb); clear HB; have HO106 := n0_; have HB := n1_; clear n0_ n1_; clear hb ho8) | ((with_reducible refine gate_callee (f := 12) rfl ?_); refine goesL_ (some 15) rfl rfl Try.func12 (by kernel_rfl) rfl #[.int .u64 (IntKind.u64.wrap (Int.tdiv a0 128))] rfl (by (try simp only [List.map_toArray, List.map_cons, List.map_nil]); first | done | rfl | (simp only [List.length_drop, List.length_take]; rfl)) ?_; (with_reducible refine (ih k (by omega) (IntKind.u64.wrap (Int.tdiv a0 128)) t107 _ A5.out).mono ?_); rintro e w9 ⟨v108, rfl, ho0, hb⟩; refine ⟨_, rfl, ?_⟩; have n0_ := Aside0.mk (Kd.R_elder' (by (with_reducible repeat (first | apply Kd.R_alloc | apply Kd.R_drewN | apply Kd.R_drew)); exact HO106.out) (Kd.R_base ho0) hb); have n1_ := Aside0.mk (Kd.R_lower (Kd.R_new' ho0 (Kd.R_lt (by (with_reducible repeat (first | apply Kd.R_alloc | apply Kd.R_drewN | apply Kd.R_drew)); exact HO106.out))) (below_size (by repeat (first | (with_reducible first | exact HB.out | apply below_alloc | apply pw_below_drewN | apply below_drew1) | exact HB.out)))); have n2_ := Aside0.mk (below_step (by repeat (first | (with_reducible first | exact HB.out | apply below_alloc | apply pw_below_drewN | apply below_drew1) | exact HB.out)) hb); clear HO106; clear HB; have HO106 := n0_; have HO109 := n1_; have HB := n2_; clear n0_ n1_ n2_; (try clear hb); (try clear hb2); (try clear hk); (try clear hi); (try clear ho0); obtain ⟨Ao11, co11, eo11⟩ := Kd.R_slice HO109.out; subst eo11) | ((with_reducible refine gate_builtin (b := .append) (xs := #[.tmp 12, .tmp 15]) rfl ?_); at_builtin; refine Kd.R_append_rows (Kd.int .u8) (w0 := w) w.heap.size rfl (.tmp 12) (.tmp 15) 24 5 (.int .u8 0) 1 rfl Try.underlying24 info5 rfl (by decide) (by omega) v105 y104 t107 _ _ _ (fun k_ => some k_ ≠ (.slice Ao11 t107.length co11 : Value).ownBlock) (fun _ => False) rfl rfl ?aO ?aR (fun _ _ h => h) (fun _ h => h.elim) ?aF ?aB ?aS ?aL ?_; (case aR => repeat (first | exact (Kd.R_reads' HO109.out).2.2 | (with_reducible refine Kd.C_alloc ?_ _) | (with_reducible refine Kd.C_drewN ?_ _) | (with_reducible refine Kd.C_drew ?_))); (case aB => exact (by repeat (first | (with_reducible first | exact HB.out | apply below_alloc | apply pw_below_drewN | apply below_drew1) | exact HB.out))); (case aF => exact (fun k_ hk => Kd.fresh' (Kd.R_lt (by (with_reducible repeat (first | apply Kd.R_alloc | apply Kd.R_drewN | apply Kd.R_drew)); exact HO109.out)) k_ hk)); (case aO => exact (by (with_reducible repeat (first | apply Kd.R_alloc | apply Kd.R_drewN | apply Kd.R_drew)); exact Kd.R_mono HO106.out (fun _ hk => hk.2))); (case aS => exact (below_size (by repeat (first | (with_reducible first | exact HB.out | apply below_alloc | apply pw_below_drewN | apply below_drew1) | exact HB.out)))); (case aL => have := LMc6.out; omega); intro v111 w10 ho hb hg hat; rw [← Ny110.out] at ho; have n0_ := Aside0.mk (Kd.R_after (ok := (fun _ => True)) (by (with_reducible repeat (first | apply Kd.R_alloc | apply Kd.R_drewN | apply Kd.R_drew)); exact HO109.out) hg hat); have n1_ := Aside0.mk (hb); have n2_ := Aside0.mk (ho); clear HO109; clear HB; clear HO106; have HO109 := n0_; have HB := n1_; have HO112 := n2_; clear n0_ n1_ n2_; clear ho hb hg hat))
      go_ret
      exact ⟨_, by first | rfl | (simp [errW_none, errW_some] <;> rfl) | (simp [*, errW_none, errW_some] <;> rfl), by (with_reducible repeat (first | apply Kd.R_alloc | apply Kd.R_drewN | apply Kd.R_drew)); exact Kd.R_mono HO112.out (fun _ hk => trivial), by repeat (first | (with_reducible first | exact HB.out | apply below_alloc | apply pw_below_drewN | apply below_drew1) | exact HB.out)⟩
    · rw [if_neg c6] at H
      exact absurd H (by simp)

end Go.Proofs.Ytohddbiedabmhaa.X
-- by xprint.py, a program of this session, over the kit's print.py
namespace Go.Proofs.Ytohddbiedabmhaa.X
open Go.RowKit Go.Proofs.YtohddbiedabmhaaW.PrintWords Go.Proofs.YtohddbiedabmhaaW.PrintLast Go.Proofs.YtohddbiedabmhaaW.PrintMore
attribute [local go_sem] max2_int min2_int max_two min_two max_three min_three max_four min_four   -- for this text's walks alone
set_option linter.unusedVariables false
set_option linter.unusedSimpArgs false

def agateref01_Put_s.f (a0 : Int) : Option (List Int) := if 0 ≤ a0 ∧ a0 < 18446744073709551616 then some ((vPut a0.toNat).map Int.ofNat) else none
theorem agateref01_Put_eval : ∀ (k n : Nat), n < 18446744073709551616 → vSize n ≤ k → agateref01_Put.f k (n : Int) = some ((vPut n).map Int.ofNat)
  | 0, n, _, h => by have := vSize_pos n; omega
  | k + 1, n, hn, h => by
    simp only [agateref01_Put.f]
    by_cases h1 : n < 128
    · rw [if_pos (by omega), vPut_lt h1]
      simp; omega
    · rw [if_neg (by omega), Option.bind_some]
      have e1 : IntKind.u64.wrap (Int.tdiv (n : Int) 128) = ((n / 128 : Nat) : Int) := by
        rw [Int.tdiv_eq_ediv_of_nonneg (by omega), u64_wrap]; omega
      have e2 : IntKind.u64.wrap (Int.tmod (n : Int) 128 + 128) % 256 = ((n % 128 + 128 : Nat) : Int) := by
        rw [Int.tmod_eq_emod_of_nonneg (by omega), u64_wrap]; omega
      have h2 := vSize_ge h1
      rw [e1, agateref01_Put_eval k (n / 128) (by omega) (by omega), Option.bind_some, e2, vPut_ge h1, if_pos]
      · simp
      · have := vSize_10 (n / 128) (by omega)
        simp [vPut_length]; omega
theorem agateref01_Put_s.ev (a0 : Int) (r) (h : agateref01_Put_s.f a0 = some r) : ∃ k, agateref01_Put.f k a0 = some r := by
  unfold agateref01_Put_s.f at h
  split at h
  · rename_i hr
    obtain ⟨n, rfl⟩ := Int.eq_ofNat_of_zero_le hr.1
    exact ⟨_, (agateref01_Put_eval _ n (by omega) (Nat.le_refl _)).trans h⟩
  · cases h

set_option maxHeartbeats 1000000 in
theorem agateref01_Put_s.calls (a0 : Int) (r : List Int) (w : World) (h : agateref01_Put_s.f a0 = some r) :
    Calls Try.prog 12 #[.int .u64 a0] w fun e w' => ∃ v0_ : Value, e = .returned (v0_) ∧ Kd.R (Kd.int .u8) 5 w' w.heap.size (fun _ => True) v0_ r ∧ Below w.heap.size w w' := by
  obtain ⟨k, hk⟩ := agateref01_Put_s.ev a0 _ h
  exact agateref01_Put.calls k a0 r w hk

end Go.Proofs.Ytohddbiedabmhaa.X
-- by xprint.py, a program of this session, over the kit's print.py
namespace Go.Proofs.Ytohddbiedabmhaa.X
open Go.RowKit Go.Proofs.YtohddbiedabmhaaW.PrintWords Go.Proofs.YtohddbiedabmhaaW.PrintLast Go.Proofs.YtohddbiedabmhaaW.PrintMore
attribute [local go_sem] max2_int min2_int max_two min_two max_three min_three max_four min_four   -- for this text's walks alone
set_option linter.unusedVariables false
set_option linter.unusedSimpArgs false

/-! ### agateref02_high: function 44 -/
def agateref02_high.l0 : Nat → Int → Int → ByteArray → Int → Option (ByteArray)
  | 0, _, _, _, _ => none
  | k + 1, x0, x1, x5, x6 => if x6 < x1 then ((some (([(Int.tmod x0 256) % 256] : List Int) : List Int)).bind fun y101 => (if x5.size + (strOfNums y101).size ≤ 9223372036854775807 then (agateref02_high.l0 k (IntKind.u64.wrap (Int.tdiv x0 256)) x1 (x5 ++ (strOfNums y101)) (wrap64 (x6 + 1))) else (none))) else (some x5)
def agateref02_high.f (k : Nat) (a0 : Int) (a1 : Int) : Option (ByteArray) := agateref02_high.l0 k a0 a1 (⟨#[]⟩ : ByteArray) 0
theorem agateref02_high.mono_l : ∀ k, (∀ y0 y1 y2 y3, LeO (agateref02_high.l0 k y0 y1 y2 y3) (agateref02_high.l0 (k + 1) y0 y1 y2 y3))
  | 0 => fun _ _ _ _ r h => by simp [agateref02_high.l0] at h
  | k + 1 => by
    have ih0 := agateref02_high.mono_l k
    · intro y0 y1 y2 y3
      unfold agateref02_high.l0
      repeat' first
      | (with_reducible exact ih0 _ _ _ _)
      | (with_reducible exact LeO.refl _)
      | (with_reducible exact LeO.none _)
      | (with_reducible refine LeO.ite ?_ ?_)
      | (with_reducible refine LeO.bind ?_ (fun _ => ?_))
      | exact ih0 _ _ _ _
      | exact LeO.none _
      | refine LeO.ite ?_ ?_
      | refine LeO.bind ?_ (fun _ => ?_)
theorem agateref02_high.mono : ∀ a0 a1 k, LeO (agateref02_high.f k a0 a1) (agateref02_high.f (k + 1) a0 a1) := by
  intro a0 a1 k
  have ih0 := agateref02_high.mono_l k
  unfold agateref02_high.f
  repeat' first
      | (with_reducible exact ih0 _ _ _ _)
      | (with_reducible exact LeO.refl _)
      | (with_reducible exact LeO.none _)
      | (with_reducible refine LeO.ite ?_ ?_)
      | (with_reducible refine LeO.bind ?_ (fun _ => ?_))
      | exact ih0 _ _ _ _
      | exact LeO.none _
      | refine LeO.ite ?_ ?_
      | refine LeO.bind ?_ (fun _ => ?_)
set_option maxHeartbeats 8000000 in
set_option maxRecDepth 100000 in
theorem agateref02_high.calls (k : Nat) (a0 : Int) (a1 : Int) (r : ByteArray) (w : World) (h : agateref02_high.f k a0 a1 = some r) :
    Calls Try.prog 44 #[.int .u64 a0, .int .i64 a1] w fun e w' => e = .returned (.string r) ∧ Below w.heap.size w w' := by
  have HB := Aside0.mk (Below.refl w.heap.size w)
  have H : (agateref02_high.l0 k a0 a1 (⟨#[]⟩ : ByteArray) 0) = some r := h
  clear h
  have H' := Aside0.mk H
  clear H
  go_enter Try.func44, Try.ntmps44
  go_wp2
  go_loopg [0, 5, 6] k (fun kq v0 v5 v6 w' => ∃ (x0_1 : Int) (x5_1 : ByteArray) (x6_1 : Int), v0 = .int .u64 x0_1 ∧ v5 = .string x5_1 ∧ v6 = .int .i64 x6_1 ∧ Aside0 (agateref02_high.l0 kq x0_1 a1 x5_1 x6_1 = some r) ∧ Aside0 (kq ≤ k) ∧ Aside0 (Below w.heap.size w w'))
  case atStart => exact ⟨(a0), ((⟨#[]⟩ : ByteArray)), (0), (by first | rfl | (simp; done) | (simp [*]; done)), (by first | rfl | (simp; done) | (simp [*]; done)), (by first | rfl | (simp; done) | (simp [*]; done)), H', ⟨Nat.le_refl _⟩, ⟨by repeat (first | (with_reducible first | exact HB.out | apply below_alloc | apply pw_below_drewN | apply below_drew1) | exact HB.out)⟩⟩
  case round =>
    clear H'
    try clear p2
    obtain ⟨x0_1, x5_1, x6_1, rfl, rfl, rfl, HA, HK1, HB⟩ := hrel
    cases gk with
    | zero => exact absurd HA.out (by simp [agateref02_high.l0])
    | succ k1 =>
      have H := HA.out
      clear HA
      simp only [agateref02_high.l0] at H
      by_cases c3 : x6_1 < a1
      · rw [if_pos c3] at H
        have c3b0 : decide (x6_1 < a1) = true := decide_eq_true c3
        clear c3
        obtain ⟨y101, hy101⟩ : ∃ y_ : List Int, y_ = (([(Int.tmod x0_1 256) % 256] : List Int)) := ⟨_, rfl⟩
        replace H : (if x5_1.size + (strOfNums y101).size ≤ 9223372036854775807 then (agateref02_high.l0 k1 (IntKind.u64.wrap (Int.tdiv x0_1 256)) a1 (x5_1 ++ (strOfNums y101)) (wrap64 (x6_1 + 1))) else (none)) = some r := by first | (rw [hy101]; with_reducible exact H) | (have H2_ := (Option.bind_some _ _).symm.trans H; rw [hy101]; with_reducible exact H2_) | (have H2_ := (Option.bind_some _ _).symm.trans H; with_reducible exact H2_) | with_reducible exact H | (rw [hy101]; exact H) | exact H
        have Ny101 := Aside0.mk hy101
        clear hy101
        by_cases c4 : x5_1.size + (strOfNums y101).size ≤ 9223372036854775807
        · rw [if_pos c4] at H
          have c4b0 := eq_true c4
          have c4b1 : decide (x5_1.size + (strOfNums y101).size ≤ 9223372036854775807) = true := decide_eq_true c4
          try have c4b2 : (9223372036854775807 < x5_1.size + (strOfNums y101).size) = False := eq_false (Nat.not_lt.2 c4)
          try have c4b3 := c4b2
          try simp only [ByteArray.size_append] at c4b3
          have H' := Aside0.mk H
          clear H
          go_wp2_with (first | ((with_reducible refine gate_dst (N := 16) rfl ?_); refine Kd.R_lit (Kd.int .u8) _ 5 ?hg (N := 16) ?hd (xs := ([(Int.tmod x0_1 256) % 256] : List Int)) (inner := [.int .u8 ((Int.tmod x0_1 256) % 256)]) (ok := fun _ => True) (okp := fun _ => True) ?hr ?hp (fun _ hk => hk) trivial (Below.refl _ _) (Nat.le_refl _) (by simp) ?_; (case hd => rfl); (case hg => rfl); (case hr => first | (go_simp; done) | (go_simp; rfl)); (case hp => exact (Reps.one (show Kd.M (Kd.int .u8) _ _ _ ((Int.tmod x0_1 256) % 256) [.int .u8 ((Int.tmod x0_1 256) % 256)] from rfl) (Reps.none _ _))); intro v102 w5 ho6 hb hg_ hnew_; clear hg_ hnew_; (first | rw [← Ny101.out] at ho6 | (simp only [Int.reduceToNat] at ho6; rw [← Ny101.out] at ho6)); have n0_ := Aside0.mk (Kd.R_lower ho6 (below_size (by repeat (first | (with_reducible first | exact HB.out | apply below_alloc | apply pw_below_drewN | apply below_drew1) | exact HB.out)))); have n1_ := Aside0.mk (below_step (by repeat (first | (with_reducible first | exact HB.out | apply below_alloc | apply pw_below_drewN | apply below_drew1) | exact HB.out)) hb); clear HB; have HO103 := n0_; have HB := n1_; clear n0_ n1_; clear hb ho6; have hcv7 := own_string (P := Try.prog) Try.underlying24 Try.underlying5 Try.underlying9 (Kd.own_of_R HO103.out)))
          go_roundg k1
          case measure => have := HK1.out; omega
          case rel => exact ⟨(IntKind.u64.wrap (Int.tdiv x0_1 256)), (x5_1 ++ (strOfNums y101)), (wrap64 (x6_1 + 1)), (by first | rfl | (simp; done) | (simp [*]; done)), (by first | rfl | (simp; done) | (simp [*]; done)), (by first | rfl | (simp; done) | (simp [*]; done)), H', ⟨by have := HK1.out; omega⟩, ⟨by repeat (first | (with_reducible first | exact HB.out | apply below_alloc | apply pw_below_drewN | apply below_drew1) | exact HB.out)⟩⟩
        · rw [if_neg c4] at H
          exact absurd H (by simp)
      · rw [if_neg c3] at H
        have c3b0 : decide (x6_1 < a1) = false := decide_eq_false c3
        clear c3
        obtain rfl := Option.some.inj H
        go_wp2
        go_ret
        exact ⟨by first | rfl | (simp [errW_none, errW_some] <;> rfl) | (simp [*, errW_none, errW_some] <;> rfl), by repeat (first | (with_reducible first | exact HB.out | apply below_alloc | apply pw_below_drewN | apply below_drew1) | exact HB.out)⟩

end Go.Proofs.Ytohddbiedabmhaa.X
