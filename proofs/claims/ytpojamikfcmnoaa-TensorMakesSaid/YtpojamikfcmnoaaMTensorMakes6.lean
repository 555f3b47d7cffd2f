import Derived.Test.YtpojamikfcmnoaaMTensorMakes2
import Derived.Test.YtpojamikfcmnoaaMTensorMakes5
import Derived.Test.YtpojamikfcmnoaaMTensorMakes4
import Derived.Test.YtpojamikfcmnoaaMTensorMakes3
import Derived.Deep.RegionHeld3
namespace Go.Proofs.Ytpojamikfcmnoaa.X
open Go.RowKit Go.Proofs.YtpojamikfcmnoaaW.PrintWords Go.Proofs.YtpojamikfcmnoaaW.PrintLast Go.Proofs.YtpojamikfcmnoaaW.PrintMore
attribute [local go_sem] max2_int min2_int max_two min_two max_three min_three max_four min_four
set_option linter.unusedVariables false
set_option linter.unusedSimpArgs false
def agateref06_Put_s.f (a b : Int) : Option (ByteArray × Int) := some (putR a b)
theorem ref06_laid (v : Nat) (h : v < 4294967296) : agateref06_laid.f (v : Int) = some (laidV v) := by
  unfold agateref06_laid.f laidV
  have e1 : Int.tmod (v : Int) 256 % 256 = (v : Int) % 256 := by
    rw [show Int.tmod (v : Int) 256 = ((v % 256 : Nat) : Int) from rfl]; omega
  have e2 : Int.tdiv (v : Int) 256 % 4294967296 % 256 = (v : Int) / 256 % 256 := by
    rw [show Int.tdiv (v : Int) 256 = ((v / 256 : Nat) : Int) from rfl]; omega
  have e3 : Int.tdiv (v : Int) 65536 % 4294967296 % 256 = (v : Int) / 65536 % 256 := by
    rw [show Int.tdiv (v : Int) 65536 = ((v / 65536 : Nat) : Int) from rfl]; omega
  have e4 : Int.tdiv (v : Int) 16777216 % 4294967296 % 256 = (v : Int) / 16777216 % 256 := by
    rw [show Int.tdiv (v : Int) 16777216 = ((v / 16777216 : Nat) : Int) from rfl]; omega
  rw [e1, e2, e3, e4]
theorem agateref06_Put_s.ev (a b : Int) (r) (h : agateref06_Put_s.f a b = some r) : ∃ k : Nat, agateref06_Put.f a b = some r := by
  refine ⟨0, ?_⟩
  rw [← h]
  show (if mayR a b = true then _ else _) = _
  unfold agateref06_Put_s.f putR
  by_cases hm : mayR a b = true
  · rw [if_pos hm, if_pos hm]
    have hs : (-1048576 ≤ a ∧ a ≤ 1048576) ∧ (-1048576 ≤ b ∧ b ≤ 1048576) := by
      unfold mayR at hm
      simpa only [Bool.and_eq_true, decide_eq_true_eq] using hm
    have e1 : agateref06_bits_s.f a = some (floatOfInt .f32 a : Int) := if_pos hs.1
    have e2 : agateref06_bits_s.f b = some (floatOfInt .f32 b : Int) := if_pos hs.2
    rw [e1, Option.bind_some, ref06_laid _ (F32_lt a), Option.bind_some, e2, Option.bind_some, ref06_laid _ (F32_lt b), Option.bind_some, if_pos (by rw [laidV_size, laidV_size]; decide)]
  · rw [if_neg hm, if_neg hm]
set_option maxHeartbeats 1000000 in
theorem agateref06_Put_s.calls (a0_0 : Int) (a0_1 : Int) (r1 : ByteArray) (r2 : Int) (w : World) (h : agateref06_Put_s.f a0_0 a0_1 = some (r1, r2)) :
    Calls Try.prog 20 #[.agg #[.int .i64 a0_0, .int .i64 a0_1]] w fun e w' => e = .returned (.tuple #[.string r1, .int .i64 r2]) ∧ Below w.heap.size w w' := by
  obtain ⟨k, hk⟩ := agateref06_Put_s.ev a0_0 a0_1 _ h
  exact agateref06_Put.calls a0_0 a0_1 r1 r2 w hk
end Go.Proofs.Ytpojamikfcmnoaa.X
namespace Go.Proofs.Ytpojamikfcmnoaa.X
open Go.RowKit Go.Proofs.YtpojamikfcmnoaaW.PrintWords Go.Proofs.YtpojamikfcmnoaaW.PrintLast Go.Proofs.YtpojamikfcmnoaaW.PrintMore
attribute [local go_sem] max2_int min2_int max_two min_two max_three min_three max_four min_four
set_option linter.unusedVariables false
set_option linter.unusedSimpArgs false
theorem mayE_one (a b : Int) (ha : -9007199254740992 < a ∧ a < 9007199254740992) (hb : -9007199254740992 < b ∧ b < 9007199254740992) : mayE [(floatOfInt .f64 a, floatOfInt .f64 b)] = mayR a b := by
  unfold mayE
  rw [List.all_cons, List.all_nil, Bool.and_true]
  exact mayE_F a b ha hb
theorem F_zero : floatOfInt .f64 0 = 0 := by decide +kernel
theorem order_F (n : Int) (h0 : -9007199254740992 < n) (h1 : n < 9007199254740992) : (FloatKind.f64.format.order (floatOfInt .f64 n) (floatOfInt .f64 n) == some .eq) = true := by
  have h : FloatKind.f64.format.order (floatOfInt .f64 n) (floatOfInt .f64 n) = _ := num_order (F_int n h0 h1) (F_int n h0 h1)
  rw [h, cmp_eq, decide_eq_true rfl]
theorem putR_yes (a b : Int) (h : mayR a b = true) : agateref06_Put_s.f a b = some (laidV (floatOfInt .f32 a) ++ laidV (floatOfInt .f32 b), 0) := by
  unfold agateref06_Put_s.f putR; rw [if_pos h]
end Go.Proofs.Ytpojamikfcmnoaa.X
namespace Go.Proofs.Ytpojamikfcmnoaa.X
open Go.RowKit Go.Proofs.YtpojamikfcmnoaaW.PrintWords Go.Proofs.YtpojamikfcmnoaaW.PrintLast Go.Proofs.YtpojamikfcmnoaaW.PrintMore
attribute [local go_sem] max2_int min2_int max_two min_two max_three min_three max_four min_four
set_option linter.unusedVariables false
set_option linter.unusedSimpArgs false
theorem bits_ok (b : ByteArray) (h : 4 ≤ b.size) : gauss_bits_s.f b = some (wd b : Int) := if_pos h
def readF (b : ByteArray) : Nat × Nat × Int := (floatOfInt .f64 (readR b).1, floatOfInt .f64 (readR b).2.1, (readR b).2.2)
theorem readF_short (b : ByteArray) (h : b.size < 8) : readF b = (0, 0, 1) := by unfold readF readR; rw [if_pos h]; simp only [F_zero]
theorem readF_long (b : ByteArray) (h : b.size > 8) : readF b = (0, 0, 2) := by unfold readF readR; rw [if_neg (by omega), if_pos h]; simp only [F_zero]
theorem readF_no (b : ByteArray) (h : b.size = 8) (h2 : ((wholeS (wd b)).2 && (wholeS (wd (b.extract 4 b.size))).2) = false) : readF b = (0, 0, 17) := by
  unfold readF readR; rw [if_neg (by omega), if_neg (by omega), h2, if_neg (by simp)]; simp only [F_zero]
theorem readF_yes (b : ByteArray) (h : b.size = 8) (h2 : ((wholeS (wd b)).2 && (wholeS (wd (b.extract 4 b.size))).2) = true) : readF b = (floatOfInt .f64 (wholeS (wd b)).1, floatOfInt .f64 (wholeS (wd (b.extract 4 b.size))).1, 0) := by
  unfold readF readR; rw [if_neg (by omega), if_neg (by omega), if_pos h2]
theorem may_one (g : Nat) (W : World) (x y : Nat) (hg : g = W.heap.size) :
    Calls Try.prog 55 #[.slice (some ⟨g, 0, none⟩) 1 1] (W.alloc (Obj.cells #[.complex .f64 x y] 26)) fun e w' => e = .returned (.bool (partE x && partE y)) ∧ w' = W.alloc (Obj.cells #[.complex .f64 x y] 26) := by
  subst hg
  have h := gauss_may.calls ⟨W.heap.size, 0, none⟩ 1 [(x, y)] _ (Nat.le_refl _) (by simp) (cells_one W x y 26)
  have e : mayE [(x, y)] = (partE x && partE y) := by unfold mayE; rw [List.all_cons, List.all_nil, Bool.and_true]
  rw [e] at h
  exact h
structure RB (w0 w : World) : Prop where
  b : Below w0.heap.size w0 w
theorem bits_keep {w0 w : World} (h : RB w0 w) (b : ByteArray) (r : Int) (hf : gauss_bits_s.f b = some r) :
    Calls Try.prog 61 #[.string b] w fun e w' => e = .returned (.int .u32 r) ∧ RB w0 w' := by
  refine (gauss_bits_s.calls b r w hf).mono ?_
  rintro e w' ⟨he, hb⟩
  exact ⟨he, ⟨below_step h.b hb.below⟩⟩
set_option maxHeartbeats 8000000 in
set_option maxRecDepth 100000 in
theorem gauss_Read.calls (b : ByteArray) (w : World) :
    Calls Try.prog 24 #[.string b] w fun e w' => e = .returned (.tuple #[.complex .f64 (readF b).1 (readF b).2.1, .int .i64 (readF b).2.2]) ∧ Below w.heap.size w w' := by
  by_cases h1 : b.size < 8
  · have h1b : decide ((b.size : Int) < 8) = true := decide_eq_true (by omega)
    rw [readF_short b h1]
    clear h1
    go_enter Try.func24, Try.ntmps24
    go_wp2
    go_ret2
    exact ⟨rfl, Below.refl _ _⟩
  · have h1b : decide ((b.size : Int) < 8) = false := decide_eq_false (by omega)
    by_cases h2 : b.size > 8
    · have h2b : decide (8 < (b.size : Int)) = true := decide_eq_true (by omega)
      rw [readF_long b h2]
      clear h1 h2
      go_enter Try.func24, Try.ntmps24
      go_wp2
      go_ret2
      exact ⟨rfl, Below.refl _ _⟩
    · have h2b : decide (8 < (b.size : Int)) = false := decide_eq_false (by omega)
      have h8 : b.size = 8 := by omega
      have hw1 := wd_lt b
      have e8 : b.extract 4 b.size = b.extract 4 8 := by rw [h8]
      have hw2 := wd_lt (b.extract 4 8)
      obtain ⟨g1, n1, p1, f1, r1⟩ := wide_run (wd b) hw1
      obtain ⟨g2, n2, p2, f2, r2⟩ := wide_run (wd (b.extract 4 8)) hw2
      have hno := readF_no b h8
      have hyes := readF_yes b h8
      rw [e8] at hno hyes
      have Hno := Aside0.mk hno
      have Hyes := Aside0.mk hyes
      clear hno hyes
      have HB1 := Aside0.mk (bits_ok b (by omega))
      have HB2 := Aside0.mk (bits_ok (b.extract 4 8) (by rw [ByteArray.size_extract]; omega))
      have q1 := float32frombits_run (wd b : Int)
      have q2 := float32frombits_run (wd (b.extract 4 8) : Int)
      rw [Int.toNat_natCast] at q1 q2
      have P1 := Aside0.mk p1
      have P2 := Aside0.mk p2
      have F1 := Aside0.mk f1
      have F2 := Aside0.mk f2
      clear p1 p2 f1 f2 h1 h2 hw1 hw2 e8
      have h4 : (4 ≤ (b.size : Int)) = True := eq_true (by omega)
      have h4n : (4 ≤ b.size) = True := eq_true (by omega)
      have h4s : ((b.size : Int) < 4) = False := eq_false (by omega)
      go_enter Try.func24, Try.ntmps24
      have HR : RB w w := ⟨Below.refl _ _⟩
      have hdr : ∀ w' n, RB w w' → RB w (w'.drewN n) := fun w' n h => ⟨pw_below_drewN h.b n⟩
      have hdr1 : ∀ w', RB w w' → RB w w'.drew := fun w' h => ⟨below_drew1 h.b⟩
      go_wp2_with (first | (fail))
      refine wp_region_noPanic ?_
      refine wp_region_held_drew (S := fun w' => RB w w') (by kernel_rfl) ?_ (fun hHeld => ?_)
      · exact hdr1 _ HR
      refine' wpAnyH_take (i := 0) (oi := _) (v := ?_) rfl (by kernel_rfl) (by kernel_rfl) (by kernel_rfl) (fun _ _ _ h => h) (Or.inl ⟨by rfl, ?_⟩) (by assumption) ?_
      rotate_left
      · intro w hSw; (try dsimp only at hSw); go_simp; first | done | with_reducible rfl
      try simp only [Act.put, List.setIfInBounds_toArray, List.set_cons_zero, List.set_cons_succ]
      refine' wpAnyH_take (i := 4) (oi := _) (v := ?_) rfl (by kernel_rfl) (by kernel_rfl) (by kernel_rfl) (fun _ _ _ h => h) (Or.inl ⟨by rfl, ?_⟩) (by assumption) ?_
      rotate_left
      · intro w hSw; (try dsimp only at hSw); go_simp; first | done | with_reducible rfl
      try simp only [Act.put, List.setIfInBounds_toArray, List.set_cons_zero, List.set_cons_succ]
      refine' wpAnyH_take (i := 5) (oi := _) (v := ?_) rfl (by kernel_rfl) (by kernel_rfl) (by kernel_rfl) (fun _ _ _ h => h) (Or.inl ⟨by rfl, ?_⟩) (by assumption) ?_
      rotate_left
      · intro w hSw; (try dsimp only at hSw); go_simp; first | done | with_reducible rfl
      try simp only [Act.put, List.setIfInBounds_toArray, List.set_cons_zero, List.set_cons_succ]
      refine wpAnyH_ready (rs := [1]) (by kernel_rfl) (by simp) ?_
      refine AllReadyH.cons (o := _) rfl (fun K hK => ?_) ?_
      · go_simp
        go_at_call 61
        refine (bits_keep (by assumption) b _ HB1.out).mono ?_
        rintro e w5 ⟨rfl, HR⟩
        go_wp2_with fail
        refine hK.out _ _ ?_ (fun hHeld => ?_)
        · (try dsimp only); first | assumption | go_keep
        clear hK K
        try simp only [Act.put, List.setIfInBounds_toArray, List.set_cons_zero, List.set_cons_succ]
        refine wpAnyH_ready (rs := [2]) (by kernel_rfl) (by simp) ?_
        refine AllReadyH.cons (o := _) rfl (fun K hK => ?_) ?_
        · go_simp
          refine hK.out _ _ ?_ (fun hHeld => ?_)
          · (try dsimp only); first | assumption | go_keep
          clear hK K
          try simp only [Act.put, List.setIfInBounds_toArray, List.set_cons_zero, List.set_cons_succ]
          refine wpAnyH_ready (rs := [3, 6]) (by kernel_rfl) (by simp) ?_
          refine AllReadyH.cons (o := _) rfl (fun K hK => ?_) ?_
          · go_simp
            refine hK.out _ _ ?_ (fun hHeld => ?_)
            · (try dsimp only); first | assumption | go_keep
            clear hK K
            try simp only [Act.put, List.setIfInBounds_toArray, List.set_cons_zero, List.set_cons_succ]
            refine wpAnyH_ready (rs := [6]) (by kernel_rfl) (by simp) ?_
            refine AllReadyH.cons (o := _) rfl (fun K hK => ?_) ?_
            · go_simp
              go_at_call 61
              refine (bits_keep (by assumption) (b.extract 4 8) _ HB2.out).mono ?_
              rintro e w5 ⟨rfl, HR⟩
              go_wp2_with fail
              refine hK.out _ _ ?_ (fun hHeld => ?_)
              · (try dsimp only); first | assumption | go_keep
              clear hK K
              try simp only [Act.put, List.setIfInBounds_toArray, List.set_cons_zero, List.set_cons_succ]
              refine wpAnyH_ready (rs := [7]) (by kernel_rfl) (by simp) ?_
              refine AllReadyH.cons (o := _) rfl (fun K hK => ?_) ?_
              · go_simp
                refine hK.out _ _ ?_ (fun hHeld => ?_)
                · (try dsimp only); first | assumption | go_keep
                clear hK K
                try simp only [Act.put, List.setIfInBounds_toArray, List.set_cons_zero, List.set_cons_succ]
                refine wpAnyH_ready (rs := [8]) (by kernel_rfl) (by simp) ?_
                refine AllReadyH.cons (o := _) rfl (fun K hK => ?_) ?_
                · go_simp
                  refine hK.out _ _ ?_ (fun hHeld => ?_)
                  · (try dsimp only); first | assumption | go_keep
                  clear hK K
                  try simp only [Act.put, List.setIfInBounds_toArray, List.set_cons_zero, List.set_cons_succ]
                  refine wpAnyH_ready (rs := [9]) (by kernel_rfl) (by simp) ?_
                  refine AllReadyH.cons (o := _) rfl (fun K hK => ?_) ?_
                  · go_simp
                    refine hK.out _ _ ?_ (fun hHeld => ?_)
                    · (try dsimp only); first | assumption | go_keep
                    clear hK K
                    try simp only [Act.put, List.setIfInBounds_toArray, List.set_cons_zero, List.set_cons_succ]
                    refine wpAnyH_ready (rs := [10]) (by kernel_rfl) (by simp) ?_
                    refine AllReadyH.cons (o := _) rfl (fun K hK => ?_) ?_
                    · go_simp
                      refine hK.out _ _ ?_ (fun hHeld => ?_)
                      · (try dsimp only); first | assumption | go_keep
                      clear hK K
                      try simp only [Act.put, List.setIfInBounds_toArray, List.set_cons_zero, List.set_cons_succ]
                      refine wpAnyH_done (by kernel_rfl) ?_ _
                      refine NoPanic.normal ?_
                      clear r1 r2 q1 q2
                      go_wp2_with (first | (fail))
                      refine (may_one _ _ _ _ rfl).mono ?_
                      rintro e wm ⟨rfl, rfl⟩
                      rw [P1.out, P2.out]
                      cases hm : ((wholeS (wd b)).2 && (wholeS (wd (b.extract 4 8))).2) with
                      | false =>
                        go_wp2_with (first | (fail))
                        go_ret2
                        exact ⟨by rw [Hno.out hm]; rfl, by repeat (first | exact HR.b | apply below_alloc | apply pw_below_drewN | apply below_drew1)⟩
                      | true =>
                        have hm2 := Bool.and_eq_true _ _ ▸ hm
                        go_wp2_with (first | (fail))
                        go_ret2
                        exact ⟨by rw [Hyes.out hm]; show Ending.returned (.tuple #[.complex .f64 (g1 _) (g2 _), .int .i64 0]) = _; rw [F1.out hm2.1, F2.out hm2.2], by repeat (first | exact HR.b | apply below_alloc | apply pw_below_drewN | apply below_drew1)⟩
                    exact AllReadyH.nil
                  exact AllReadyH.nil
                exact AllReadyH.nil
              exact AllReadyH.nil
            exact AllReadyH.nil
          refine AllReadyH.cons (o := _) rfl (fun K hK => ?_) ?_
          · go_simp
            go_at_call 61
            refine (bits_keep (by assumption) (b.extract 4 8) _ HB2.out).mono ?_
            rintro e w5 ⟨rfl, HR⟩
            go_wp2_with fail
            refine hK.out _ _ ?_ (fun hHeld => ?_)
            · (try dsimp only); first | assumption | go_keep
            clear hK K
            try simp only [Act.put, List.setIfInBounds_toArray, List.set_cons_zero, List.set_cons_succ]
            refine wpAnyH_ready (rs := [3, 7]) (by kernel_rfl) (by simp) ?_
            refine AllReadyH.cons (o := _) rfl (fun K hK => ?_) ?_
            · go_simp
              refine hK.out _ _ ?_ (fun hHeld => ?_)
              · (try dsimp only); first | assumption | go_keep
              clear hK K
              try simp only [Act.put, List.setIfInBounds_toArray, List.set_cons_zero, List.set_cons_succ]
              refine wpAnyH_ready (rs := [7]) (by kernel_rfl) (by simp) ?_
              refine AllReadyH.cons (o := _) rfl (fun K hK => ?_) ?_
              · go_simp
                refine hK.out _ _ ?_ (fun hHeld => ?_)
                · (try dsimp only); first | assumption | go_keep
                clear hK K
                try simp only [Act.put, List.setIfInBounds_toArray, List.set_cons_zero, List.set_cons_succ]
                refine wpAnyH_ready (rs := [8]) (by kernel_rfl) (by simp) ?_
                refine AllReadyH.cons (o := _) rfl (fun K hK => ?_) ?_
                · go_simp
                  refine hK.out _ _ ?_ (fun hHeld => ?_)
                  · (try dsimp only); first | assumption | go_keep
                  clear hK K
                  try simp only [Act.put, List.setIfInBounds_toArray, List.set_cons_zero, List.set_cons_succ]
                  refine wpAnyH_ready (rs := [9]) (by kernel_rfl) (by simp) ?_
                  refine AllReadyH.cons (o := _) rfl (fun K hK => ?_) ?_
                  · go_simp
                    refine hK.out _ _ ?_ (fun hHeld => ?_)
                    · (try dsimp only); first | assumption | go_keep
                    clear hK K
                    try simp only [Act.put, List.setIfInBounds_toArray, List.set_cons_zero, List.set_cons_succ]
                    refine wpAnyH_ready (rs := [10]) (by kernel_rfl) (by simp) ?_
                    refine AllReadyH.cons (o := _) rfl (fun K hK => ?_) ?_
                    · go_simp
                      refine hK.out _ _ ?_ (fun hHeld => ?_)
                      · (try dsimp only); first | assumption | go_keep
                      clear hK K
                      try simp only [Act.put, List.setIfInBounds_toArray, List.set_cons_zero, List.set_cons_succ]
                      refine wpAnyH_done (by kernel_rfl) ?_ _
                      refine NoPanic.normal ?_
                      clear r1 r2 q1 q2
                      go_wp2_with (first | (fail))
                      refine (may_one _ _ _ _ rfl).mono ?_
                      rintro e wm ⟨rfl, rfl⟩
                      rw [P1.out, P2.out]
                      cases hm : ((wholeS (wd b)).2 && (wholeS (wd (b.extract 4 8))).2) with
                      | false =>
                        go_wp2_with (first | (fail))
                        go_ret2
                        exact ⟨by rw [Hno.out hm]; rfl, by repeat (first | exact HR.b | apply below_alloc | apply pw_below_drewN | apply below_drew1)⟩
                      | true =>
                        have hm2 := Bool.and_eq_true _ _ ▸ hm
                        go_wp2_with (first | (fail))
                        go_ret2
                        exact ⟨by rw [Hyes.out hm]; show Ending.returned (.tuple #[.complex .f64 (g1 _) (g2 _), .int .i64 0]) = _; rw [F1.out hm2.1, F2.out hm2.2], by repeat (first | exact HR.b | apply below_alloc | apply pw_below_drewN | apply below_drew1)⟩
                    exact AllReadyH.nil
                  exact AllReadyH.nil
                exact AllReadyH.nil
              exact AllReadyH.nil
            refine AllReadyH.cons (o := _) rfl (fun K hK => ?_) ?_
            · go_simp
              refine hK.out _ _ ?_ (fun hHeld => ?_)
              · (try dsimp only); first | assumption | go_keep
              clear hK K
              try simp only [Act.put, List.setIfInBounds_toArray, List.set_cons_zero, List.set_cons_succ]
              refine wpAnyH_ready (rs := [3, 8]) (by kernel_rfl) (by simp) ?_
              refine AllReadyH.cons (o := _) rfl (fun K hK => ?_) ?_
              · go_simp
                refine hK.out _ _ ?_ (fun hHeld => ?_)
                · (try dsimp only); first | assumption | go_keep
                clear hK K
                try simp only [Act.put, List.setIfInBounds_toArray, List.set_cons_zero, List.set_cons_succ]
                refine wpAnyH_ready (rs := [8]) (by kernel_rfl) (by simp) ?_
                refine AllReadyH.cons (o := _) rfl (fun K hK => ?_) ?_
                · go_simp
                  refine hK.out _ _ ?_ (fun hHeld => ?_)
                  · (try dsimp only); first | assumption | go_keep
                  clear hK K
                  try simp only [Act.put, List.setIfInBounds_toArray, List.set_cons_zero, List.set_cons_succ]
                  refine wpAnyH_ready (rs := [9]) (by kernel_rfl) (by simp) ?_
                  refine AllReadyH.cons (o := _) rfl (fun K hK => ?_) ?_
                  · go_simp
                    refine hK.out _ _ ?_ (fun hHeld => ?_)
                    · (try dsimp only); first | assumption | go_keep
                    clear hK K
                    try simp only [Act.put, List.setIfInBounds_toArray, List.set_cons_zero, List.set_cons_succ]
                    refine wpAnyH_ready (rs := [10]) (by kernel_rfl) (by simp) ?_
                    refine AllReadyH.cons (o := _) rfl (fun K hK => ?_) ?_
                    · go_simp
                      refine hK.out _ _ ?_ (fun hHeld => ?_)
                      · (try dsimp only); first | assumption | go_keep
                      clear hK K
                      try simp only [Act.put, List.setIfInBounds_toArray, List.set_cons_zero, List.set_cons_succ]
                      refine wpAnyH_done (by kernel_rfl) ?_ _
                      refine NoPanic.normal ?_
                      clear r1 r2 q1 q2
                      go_wp2_with (first | (fail))
                      refine (may_one _ _ _ _ rfl).mono ?_
                      rintro e wm ⟨rfl, rfl⟩
                      rw [P1.out, P2.out]
                      cases hm : ((wholeS (wd b)).2 && (wholeS (wd (b.extract 4 8))).2) with
                      | false =>
                        go_wp2_with (first | (fail))
                        go_ret2
                        exact ⟨by rw [Hno.out hm]; rfl, by repeat (first | exact HR.b | apply below_alloc | apply pw_below_drewN | apply below_drew1)⟩
                      | true =>
                        have hm2 := Bool.and_eq_true _ _ ▸ hm
                        go_wp2_with (first | (fail))
                        go_ret2
                        exact ⟨by rw [Hyes.out hm]; show Ending.returned (.tuple #[.complex .f64 (g1 _) (g2 _), .int .i64 0]) = _; rw [F1.out hm2.1, F2.out hm2.2], by repeat (first | exact HR.b | apply below_alloc | apply pw_below_drewN | apply below_drew1)⟩
                    exact AllReadyH.nil
                  exact AllReadyH.nil
                exact AllReadyH.nil
              refine AllReadyH.cons (o := _) rfl (fun K hK => ?_) ?_
              · go_simp
                refine hK.out _ _ ?_ (fun hHeld => ?_)
                · (try dsimp only); first | assumption | go_keep
                clear hK K
                try simp only [Act.put, List.setIfInBounds_toArray, List.set_cons_zero, List.set_cons_succ]
                refine wpAnyH_ready (rs := [3]) (by kernel_rfl) (by simp) ?_
                refine AllReadyH.cons (o := _) rfl (fun K hK => ?_) ?_
                · go_simp
                  refine hK.out _ _ ?_ (fun hHeld => ?_)
                  · (try dsimp only); first | assumption | go_keep
                  clear hK K
                  try simp only [Act.put, List.setIfInBounds_toArray, List.set_cons_zero, List.set_cons_succ]
                  refine wpAnyH_ready (rs := [9]) (by kernel_rfl) (by simp) ?_
                  refine AllReadyH.cons (o := _) rfl (fun K hK => ?_) ?_
                  · go_simp
                    refine hK.out _ _ ?_ (fun hHeld => ?_)
                    · (try dsimp only); first | assumption | go_keep
                    clear hK K
                    try simp only [Act.put, List.setIfInBounds_toArray, List.set_cons_zero, List.set_cons_succ]
                    refine wpAnyH_ready (rs := [10]) (by kernel_rfl) (by simp) ?_
                    refine AllReadyH.cons (o := _) rfl (fun K hK => ?_) ?_
                    · go_simp
                      refine hK.out _ _ ?_ (fun hHeld => ?_)
                      · (try dsimp only); first | assumption | go_keep
                      clear hK K
                      try simp only [Act.put, List.setIfInBounds_toArray, List.set_cons_zero, List.set_cons_succ]
                      refine wpAnyH_done (by kernel_rfl) ?_ _
                      refine NoPanic.normal ?_
                      clear r1 r2 q1 q2
                      go_wp2_with (first | (fail))
                      refine (may_one _ _ _ _ rfl).mono ?_
                      rintro e wm ⟨rfl, rfl⟩
                      rw [P1.out, P2.out]
                      cases hm : ((wholeS (wd b)).2 && (wholeS (wd (b.extract 4 8))).2) with
                      | false =>
                        go_wp2_with (first | (fail))
                        go_ret2
                        exact ⟨by rw [Hno.out hm]; rfl, by repeat (first | exact HR.b | apply below_alloc | apply pw_below_drewN | apply below_drew1)⟩
                      | true =>
                        have hm2 := Bool.and_eq_true _ _ ▸ hm
                        go_wp2_with (first | (fail))
                        go_ret2
                        exact ⟨by rw [Hyes.out hm]; show Ending.returned (.tuple #[.complex .f64 (g1 _) (g2 _), .int .i64 0]) = _; rw [F1.out hm2.1, F2.out hm2.2], by repeat (first | exact HR.b | apply below_alloc | apply pw_below_drewN | apply below_drew1)⟩
                    exact AllReadyH.nil
                  exact AllReadyH.nil
                exact AllReadyH.nil
              exact AllReadyH.nil
            exact AllReadyH.nil
          exact AllReadyH.nil
        exact AllReadyH.nil
      exact AllReadyH.nil
end Go.Proofs.Ytpojamikfcmnoaa.X
namespace Go.Proofs.Ytpojamikfcmnoaa.X
open Go.RowKit Go.Proofs.YtpojamikfcmnoaaW.PrintWords Go.Proofs.YtpojamikfcmnoaaW.PrintLast Go.Proofs.YtpojamikfcmnoaaW.PrintMore
attribute [local go_sem] max2_int min2_int max_two min_two max_three min_three max_four min_four
set_option linter.unusedVariables false
set_option linter.unusedSimpArgs false
def tensor_Tensor_value.f (a0_0 : ByteArray) (a0_1 : Int) (l0_2 : List Int) (a0_3 a1 : ByteArray) : Option Bool := if a0_1 = 9 then (if 0 < a1.size then some (decide (bt a1 0 ≤ 1)) else none) else if a0_1 = 14 then some ((readR a1).2.2 == 0) else some true
set_option maxHeartbeats 8000000 in
set_option maxRecDepth 100000 in
theorem tensor_Tensor_value.calls (a0_0 : ByteArray) (a0_1 : Int) (A0_2 : Option Addr) (c0_2 : Nat) (l0_2 : List Int) (a0_3 : ByteArray) (a1 : ByteArray) (r : Bool) (w : World) (hr0_2 : Kd.C (Kd.int .i64) w A0_2 l0_2.length l0_2) (hc0_2 : l0_2.length ≤ c0_2) (h : tensor_Tensor_value.f a0_0 a0_1 l0_2 a0_3 a1 = some r) :
    Calls Try.prog 68 #[.agg #[.string a0_0, .int .i64 a0_1, .slice A0_2 l0_2.length c0_2, .string a0_3], .string a1] w fun e w' => e = .returned (.bool r) ∧ Below w.heap.size w w' := by
  have hu := Try.underlying62
  clear hr0_2 hc0_2
  unfold tensor_Tensor_value.f at h
  by_cases h9 : a0_1 = 9
  · subst h9
    rw [if_pos rfl] at h
    by_cases hs : 0 < a1.size
    · rw [if_pos hs] at h
      obtain rfl := Option.some.inj h
      have hb := bt_at a1 0 (by simpa using hs)
      have q1 : (0 < (a1.size : Int)) = True := eq_true (by omega)
      clear h
      go_enter Try.func68, Try.ntmps68
      go_wp2
      go_ret
      exact ⟨by rw [← hb]; rfl, below_alloc (Below.refl _ _) _⟩
    · rw [if_neg hs] at h; cases h
  · rw [if_neg h9] at h
    have h9b : (a0_1 == 9) = false := beq_eq_false_iff_ne.2 h9
    by_cases h14 : a0_1 = 14
    · subst h14
      rw [if_pos rfl] at h
      obtain rfl := Option.some.inj h
      clear h h9 h9b
      go_enter Try.func68, Try.ntmps68
      go_wp2_with (first | (fail))
      refine (gauss_Read.calls a1 _).mono ?_
      rintro e w1 ⟨rfl, hb⟩
      have HB := Aside0.mk (below_step (below_alloc (Below.refl w.heap.size w) _) hb)
      rw [show (readF a1).2.2 = (readR a1).2.2 from rfl]
      clear hb
      go_wp2_with (first | (fail))
      go_ret
      exact ⟨rfl, HB.out⟩
    · rw [if_neg h14] at h
      obtain rfl := Option.some.inj h
      have h14b : (a0_1 == 14) = false := beq_eq_false_iff_ne.2 h14
      clear h h9 h14
      go_enter Try.func68, Try.ntmps68
      go_wp2
      go_ret
      exact ⟨rfl, below_alloc (Below.refl _ _) _⟩
end Go.Proofs.Ytpojamikfcmnoaa.X
namespace Go.Proofs.Ytpojamikfcmnoaa.X
open Go.RowKit Go.Proofs.YtpojamikfcmnoaaW.PrintWords Go.Proofs.YtpojamikfcmnoaaW.PrintLast Go.Proofs.YtpojamikfcmnoaaW.PrintMore
attribute [local go_sem] max2_int min2_int max_two min_two max_three min_three max_four min_four
set_option linter.unusedVariables false
set_option linter.unusedSimpArgs false
mutual
def shape_Size.l0 : Nat → List Int → List Int → Int → Int → Option (Int × Int)
 | 0, _, _, _, _ => none
 | k + 1, x0, x13, x14, x15 => if x15 < x14 then (if 0 ≤ x15 then (if x15 < (x13.length : Int) then (if (rd x13 x15) < 0 then (some (0, 6)) else (shape_Size.l0 k x0 x13 x14 (wrap64 (x15 + 1)))) else (none)) else (none)) else (shape_Size.l1 k 1 false x0 (x0.length : Int) 0)
def shape_Size.l1 : Nat → Int → Bool → List Int → Int → Int → Option (Int × Int)
 | 0, _, _, _, _, _ => none
 | k + 1, x6, x7, x22, x23, x24 => if x24 < x23 then (if 0 ≤ x24 then (if x24 < (x22.length : Int) then (if (rd x22 x24) > 65536 then (some (0, 7)) else (if (rd x22 x24) = 0 then (shape_Size.l1 k x6 true x22 x23 (wrap64 (x24 + 1))) else (shape_Size.l1 k (mn (wrap64 (x6 * (rd x22 x24))) 65537) x7 x22 x23 (wrap64 (x24 + 1))))) else (none)) else (none)) else (if x7 = true then (some (0, 0)) else (if x6 > 65536 then (some (0, 7)) else (some (x6, 0))))
end
def shape_Size.f (k : Nat) (l0 : List Int) : Option (Int × Int) := if (l0.length : Int) > 8 then (some (0, 6)) else (shape_Size.l0 k l0 l0 (l0.length : Int) 0)
set_option maxHeartbeats 8000000 in
set_option maxRecDepth 100000 in
theorem shape_Size.calls (k : Nat) (A0 : Option Addr) (c0 : Nat) (l0 : List Int) (r1 : Int) (r2 : Int) (w : World) (hr0 : Kd.C (Kd.int .i64) w A0 l0.length l0) (hc0 : l0.length ≤ c0) (h : shape_Size.f k l0 = some (r1, r2)) :
  Calls Try.prog 26 #[.slice A0 l0.length c0] w fun e w' => e = .returned (.tuple #[.int .i64 r1, .int .i64 r2]) ∧ Below w.heap.size w w' := by
 have HR0 := Aside0.mk hr0
 have HC0 := Aside0.mk hc0
 clear hr0 hc0
 have HB := Aside0.mk (Below.refl w.heap.size w)
 have H : (if (l0.length : Int) > 8 then (some (0, 6)) else (shape_Size.l0 k l0 l0 (l0.length : Int) 0)) = some (r1, r2) := h
 clear h
 by_cases c2 : (l0.length : Int) > 8
 ·
  rw [if_pos c2] at H
  have c2b0 : decide (8 < (l0.length : Int)) = true := decide_eq_true c2
  have c2b1 : decide (8 < l0.length) = true := decide_eq_true (by omega)
  clear c2
  simp only [Option.some.injEq, Prod.mk.injEq] at H
  obtain ⟨rfl, rfl⟩ := H
  go_enter Try.func26, Try.ntmps26
  go_wp2
  go_ret2
  exact ⟨by first | rfl | (simp [errW_none, errW_some] <;> rfl) | (simp [*, errW_none, errW_some] <;> rfl), hbA HB⟩
 ·
  rw [if_neg c2] at H
  have c2b0 : decide (8 < (l0.length : Int)) = false := decide_eq_false c2
  have c2b1 : decide (8 < l0.length) = false := decide_eq_false (by omega)
  clear c2
  have H' := Aside0.mk H
  clear H
  go_enter Try.func26, Try.ntmps26
  go_wp2
  go_loopg [15] k (fun kq v15 w' => ∃ (x15_1 : Int), v15 = .int .i64 x15_1 ∧ Aside0 (shape_Size.l0 kq l0 l0 (l0.length : Int) x15_1 = some (r1, r2)) ∧ Aside0 (kq ≤ k) ∧ Aside0 (Below w.heap.size w w'))
  case atStart => exact ⟨(0), (by first | rfl | (simp; done) | (simp [*]; done)), H', ⟨Nat.le_refl _⟩, ⟨hbA HB⟩⟩
  case round =>
   clear H'
   try clear c2; try clear c2b0; try clear c2b1
   obtain ⟨x15_1, rfl, HA, HK1, HB⟩ := hrel
   cases gk with
   | zero => exact absurd HA.out (by simp [shape_Size.l0])
   | succ k1 =>
    have H := HA.out; clear HA
    simp only [shape_Size.l0] at H
    by_cases c3 : x15_1 < (l0.length : Int)
    ·
     rw [if_pos c3] at H
     have c3b0 : decide (x15_1 < (l0.length : Int)) = true := decide_eq_true c3
     clear c3
     by_cases c4 : 0 ≤ x15_1
     ·
      rw [if_pos c4] at H
      have c4b0 : decide (0 ≤ x15_1) = true := decide_eq_true c4
      clear c4
      by_cases c5 : x15_1 < (l0.length : Int)
      ·
       rw [if_pos c5] at H
       have c5b0 : decide (x15_1 < (l0.length : Int)) = true := decide_eq_true c5
       clear c5
       by_cases c6 : (rd l0 x15_1) < 0
       ·
        rw [if_pos c6] at H
        have c6b0 : decide ((rd l0 x15_1) < 0) = true := decide_eq_true c6
        clear c6
        simp only [Option.some.injEq, Prod.mk.injEq] at H
        obtain ⟨rfl, rfl⟩ := H
        have p101 : 0 ≤ (x15_1 : Int) := of_decide_eq_true (by first | (with_reducible assumption) | assumption)
        have q101 : x15_1 < (l0.length : Int) := of_decide_eq_true (by first | (with_reducible assumption) | assumption)
        obtain ⟨ad101, e101, hx101_0⟩ := Kd.at_int HR0.out x15_1 p101 q101
        cases e101
        replace hx101_0 := (HB.out.cell (World.block_lt_of_cell? w _ hx101_0)).trans hx101_0
        replace p101 := eq_true p101
        replace q101 := eq_true q101
        go_wp2
        go_ret2
        exact ⟨by first | rfl | (simp [errW_none, errW_some] <;> rfl) | (simp [*, errW_none, errW_some] <;> rfl), hbA HB⟩
       ·
        rw [if_neg c6] at H
        have c6b0 : decide ((rd l0 x15_1) < 0) = false := decide_eq_false c6
        clear c6
        have H' := Aside0.mk H
        clear H
        have p101 : 0 ≤ (x15_1 : Int) := of_decide_eq_true (by first | (with_reducible assumption) | assumption)
        have q101 : x15_1 < (l0.length : Int) := of_decide_eq_true (by first | (with_reducible assumption) | assumption)
        obtain ⟨ad101, e101, hx101_0⟩ := Kd.at_int HR0.out x15_1 p101 q101
        cases e101
        replace hx101_0 := (HB.out.cell (World.block_lt_of_cell? w _ hx101_0)).trans hx101_0
        replace p101 := eq_true p101
        replace q101 := eq_true q101
        go_wp2
        go_roundg k1
        case measure => have := HK1.out; omega
        case rel => exact ⟨(wrap64 (x15_1 + 1)), (by first | rfl | (simp; done) | (simp [*]; done)), H', ⟨by have := HK1.out; omega⟩, ⟨hbA HB⟩⟩
      ·
       exact absurd (of_decide_eq_true c3b0) c5
     ·
      rw [if_neg c4] at H
      exact absurd H (by simp)
    ·
     rw [if_neg c3] at H
     have c3b0 : decide (x15_1 < (l0.length : Int)) = false := decide_eq_false c3
     clear c3
     have H' := Aside0.mk H
     clear H
     go_wp2
     go_loopg [6, 7, 24] k1 (fun kq v6 v7 v24 w' => ∃ (x6_2 : Int) (x7_2 : Bool) (x24_2 : Int), v6 = .int .i64 x6_2 ∧ v7 = .bool x7_2 ∧ v24 = .int .i64 x24_2 ∧ Aside0 (shape_Size.l1 kq x6_2 x7_2 l0 (l0.length : Int) x24_2 = some (r1, r2)) ∧ Aside0 (kq ≤ k1) ∧ Aside0 (Below w.heap.size w w'))
     case atStart => exact ⟨(1), (false), (0), (by first | rfl | (simp; done) | (simp [*]; done)), (by first | rfl | (simp; done) | (simp [*]; done)), (by first | rfl | (simp; done) | (simp [*]; done)), H', ⟨Nat.le_refl _⟩, ⟨hbA HB⟩⟩
     case round =>
      clear H'
      obtain ⟨x6_2, x7_2, x24_2, rfl, rfl, rfl, HA, HK2, HB⟩ := hrel
      cases gk with
      | zero => exact absurd HA.out (by simp [shape_Size.l1])
      | succ k2 =>
       have H := HA.out; clear HA
       simp only [shape_Size.l1] at H
       by_cases c7 : x24_2 < (l0.length : Int)
       ·
        rw [if_pos c7] at H
        have c7b0 : decide (x24_2 < (l0.length : Int)) = true := decide_eq_true c7
        clear c7
        by_cases c8 : 0 ≤ x24_2
        ·
         rw [if_pos c8] at H
         have c8b0 : decide (0 ≤ x24_2) = true := decide_eq_true c8
         clear c8
         by_cases c9 : x24_2 < (l0.length : Int)
         ·
          rw [if_pos c9] at H
          have c9b0 : decide (x24_2 < (l0.length : Int)) = true := decide_eq_true c9
          clear c9
          by_cases c10 : (rd l0 x24_2) > 65536
          ·
           rw [if_pos c10] at H
           have c10b0 : decide (65536 < (rd l0 x24_2)) = true := decide_eq_true c10
           clear c10
           simp only [Option.some.injEq, Prod.mk.injEq] at H
           obtain ⟨rfl, rfl⟩ := H
           have p102 : 0 ≤ (x24_2 : Int) := of_decide_eq_true (by first | (with_reducible assumption) | assumption)
           have q102 : x24_2 < (l0.length : Int) := of_decide_eq_true (by first | (with_reducible assumption) | assumption)
           obtain ⟨ad102, e102, hx102_0⟩ := Kd.at_int HR0.out x24_2 p102 q102
           cases e102
           replace hx102_0 := (HB.out.cell (World.block_lt_of_cell? w _ hx102_0)).trans hx102_0
           replace p102 := eq_true p102
           replace q102 := eq_true q102
           go_wp2
           go_ret2
           exact ⟨by first | rfl | (simp [errW_none, errW_some] <;> rfl) | (simp [*, errW_none, errW_some] <;> rfl), hbA HB⟩
          ·
           rw [if_neg c10] at H
           have c10b0 : decide (65536 < (rd l0 x24_2)) = false := decide_eq_false c10
           clear c10
           by_cases c11 : (rd l0 x24_2) = 0
           ·
            rw [if_pos c11] at H
            have c11b0 : ((rd l0 x24_2) == 0) = true := beq_iff_eq.mpr c11
            have c11b1 : ((rd l0 x24_2) != 0) = false := bne_eq_false_iff_eq.mpr c11
            clear c11
            have H' := Aside0.mk H
            clear H
            have p102 : 0 ≤ (x24_2 : Int) := of_decide_eq_true (by first | (with_reducible assumption) | assumption)
            have q102 : x24_2 < (l0.length : Int) := of_decide_eq_true (by first | (with_reducible assumption) | assumption)
            obtain ⟨ad102, e102, hx102_0⟩ := Kd.at_int HR0.out x24_2 p102 q102
            cases e102
            replace hx102_0 := (HB.out.cell (World.block_lt_of_cell? w _ hx102_0)).trans hx102_0
            replace p102 := eq_true p102
            replace q102 := eq_true q102
            go_wp2
            go_roundg k2
            case measure => have := HK1.out; have := HK2.out; omega
            case rel => exact ⟨(x6_2), (true), (wrap64 (x24_2 + 1)), (by first | rfl | (simp; done) | (simp [*]; done)), (by first | rfl | (simp; done) | (simp [*]; done)), (by first | rfl | (simp; done) | (simp [*]; done)), H', ⟨by have := HK1.out; have := HK2.out; omega⟩, ⟨hbA HB⟩⟩
           ·
            rw [if_neg c11] at H
            have c11b0 : ((rd l0 x24_2) == 0) = false := beq_eq_false_iff_ne.mpr c11
            have c11b1 : ((rd l0 x24_2) != 0) = true := bne_iff_ne.mpr c11
            obtain ⟨ji12, hji12⟩ : ∃ j_ : Int, (mn (wrap64 (x6_2 * (rd l0 x24_2))) 65537) = j_ := ⟨_, rfl⟩
            replace H : (shape_Size.l1 k2 ji12 x7_2 l0 (l0.length : Int) (wrap64 (x24_2 + 1))) = some (r1, r2) := by first | (rw [hji12] at H; exact H) | (simp only [hji12] at H ⊢; exact H)
            have hji12_ : (if 65537 < (wrap64 (x6_2 * (rd l0 x24_2))) then 65537 else (wrap64 (x6_2 * (rd l0 x24_2)))) = ji12 := hji12
            have H' := Aside0.mk H
            clear H
            have p102 : 0 ≤ (x24_2 : Int) := of_decide_eq_true (by first | (with_reducible assumption) | assumption)
            have q102 : x24_2 < (l0.length : Int) := of_decide_eq_true (by first | (with_reducible assumption) | assumption)
            obtain ⟨ad102, e102, hx102_0⟩ := Kd.at_int HR0.out x24_2 p102 q102
            cases e102
            replace hx102_0 := (HB.out.cell (World.block_lt_of_cell? w _ hx102_0)).trans hx102_0
            replace p102 := eq_true p102
            replace q102 := eq_true q102
            go_wp2
            go_roundg k2
            case measure => have := HK1.out; have := HK2.out; omega
            case rel => exact ⟨(ji12), (x7_2), (wrap64 (x24_2 + 1)), (by first | rfl | (simp; done) | (simp only [← hji12] <;> (first | rfl | simp)) | (simp [*]; done)), (by first | rfl | (simp; done) | (simp [*]; done)), (by first | rfl | (simp; done) | (simp [*]; done)), H', ⟨by have := HK1.out; have := HK2.out; omega⟩, ⟨hbA HB⟩⟩
         ·
          exact absurd (of_decide_eq_true c7b0) c9
        ·
         rw [if_neg c8] at H
         exact absurd H (by simp)
       ·
        rw [if_neg c7] at H
        have c7b0 : decide (x24_2 < (l0.length : Int)) = false := decide_eq_false c7
        clear c7
        by_cases c13 : x7_2 = true
        ·
         subst c13
         have H1 : (some (0, 0)) = some (r1, r2) := by rw [if_pos rfl] at H; exact H
         clear H
         have H := H1
         clear H1
         simp only [Option.some.injEq, Prod.mk.injEq] at H
         obtain ⟨rfl, rfl⟩ := H
         go_wp2
         go_ret2
         exact ⟨by first | rfl | (simp [errW_none, errW_some] <;> rfl) | (simp [*, errW_none, errW_some] <;> rfl), hbA HB⟩
        ·
         replace c13 := Bool.eq_false_iff.mpr c13
         subst c13
         have H1 : (if x6_2 > 65536 then (some (0, 7)) else (some (x6_2, 0))) = some (r1, r2) := by rw [if_neg (show ¬ (false = true) by decide)] at H; exact H
         clear H
         have H := H1
         clear H1
         by_cases c14 : x6_2 > 65536
         ·
          rw [if_pos c14] at H
          have c14b0 : decide (65536 < x6_2) = true := decide_eq_true c14
          clear c14
          simp only [Option.some.injEq, Prod.mk.injEq] at H
          obtain ⟨rfl, rfl⟩ := H
          go_wp2
          go_ret2
          exact ⟨by first | rfl | (simp [errW_none, errW_some] <;> rfl) | (simp [*, errW_none, errW_some] <;> rfl), hbA HB⟩
         ·
          rw [if_neg c14] at H
          have c14b0 : decide (65536 < x6_2) = false := decide_eq_false c14
          clear c14
          simp only [Option.some.injEq, Prod.mk.injEq] at H
          obtain ⟨rfl, rfl⟩ := H
          go_wp2
          go_ret2
          exact ⟨by first | rfl | (simp [errW_none, errW_some] <;> rfl) | (simp [*, errW_none, errW_some] <;> rfl), hbA HB⟩
end Go.Proofs.Ytpojamikfcmnoaa.X
