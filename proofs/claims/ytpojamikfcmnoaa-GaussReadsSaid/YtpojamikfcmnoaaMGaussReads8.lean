import Derived.Test.YtpojamikfcmnoaaMGaussReads0
import Derived.Test.YtpojamikfcmnoaaMGaussReads7
import Derived.Test.YtpojamikfcmnoaaMGaussReads4
import Derived.Test.YtpojamikfcmnoaaMGaussReads1
import Derived.Test.YtpojamikfcmnoaaMGaussReads5
import Derived.Test.YtpojamikfcmnoaaMGaussReads6
import Derived.Deep.RegionHeld3
-- by xprint.py, a program of this session, over the kit's print.py
namespace Go.Proofs.Ytpojamikfcmnoaa.X
open Go.RowKit Go.Proofs.YtpojamikfcmnoaaW.PrintWords Go.Proofs.YtpojamikfcmnoaaW.PrintLast Go.Proofs.YtpojamikfcmnoaaW.PrintMore
attribute [local go_sem] max2_int min2_int max_two min_two max_three min_three max_four min_four   -- for this text's walks alone
set_option linter.unusedVariables false
set_option linter.unusedSimpArgs false

theorem bits_ok (b : ByteArray) (h : 4 ≤ b.size) : gauss_bits_s.f b = some (wd b : Int) := if_pos h
def readF (b : ByteArray) : Nat × Nat × Int := (floatOfInt .f64 (readR b).1, floatOfInt .f64 (readR b).2.1, (readR b).2.2)
theorem readF_short (b : ByteArray) (h : b.size < 8) : readF b = (0, 0, 1) := by unfold readF readR; rw [if_pos h]; simp only [F_zero]
theorem readF_long (b : ByteArray) (h : b.size > 8) : readF b = (0, 0, 2) := by unfold readF readR; rw [if_neg (by omega), if_pos h]; simp only [F_zero]
theorem readF_no (b : ByteArray) (h : b.size = 8) (h2 : ((wholeS (wd b)).2 && (wholeS (wd (b.extract 4 b.size))).2) = false) : readF b = (0, 0, 17) := by
  unfold readF readR; rw [if_neg (by omega), if_neg (by omega), h2, if_neg (by simp)]; simp only [F_zero]
theorem readF_yes (b : ByteArray) (h : b.size = 8) (h2 : ((wholeS (wd b)).2 && (wholeS (wd (b.extract 4 b.size))).2) = true) : readF b = (floatOfInt .f64 (wholeS (wd b)).1, floatOfInt .f64 (wholeS (wd (b.extract 4 b.size))).1, 0) := by
  unfold readF readR; rw [if_neg (by omega), if_neg (by omega), if_pos h2]
theorem may_one (g : Nat) (W : World) (x y : Nat) (hg : g = W.heap.size) :
    Calls Try.prog 55 #[.slice (some ⟨g, 0, none⟩) 1 1] (W.alloc (Obj.cells #[.complex .f64 x y] 26)) fun e w' => e = .returned (.bool (partE x && partE y)) ∧ w' = W.alloc (Obj.cells #[.complex .f64 x y] 26) := by
  subst hg
  have h := gauss_may.calls ⟨W.heap.size, 0, none⟩ 1 [(x, y)] _ (Nat.le_refl _) (by simp) (cells_one W x y 26)
  have e : mayE [(x, y)] = (partE x && partE y) := by unfold mayE; rw [List.all_cons, List.all_nil, Bool.and_true]
  rw [e] at h
  exact h
structure RB (w0 w : World) : Prop where
  b : Below w0.heap.size w0 w
theorem bits_keep {w0 w : World} (h : RB w0 w) (b : ByteArray) (r : Int) (hf : gauss_bits_s.f b = some r) :
    Calls Try.prog 61 #[.string b] w fun e w' => e = .returned (.int .u32 r) ∧ RB w0 w' := by
  refine (gauss_bits_s.calls b r w hf).mono ?_
  rintro e w' ⟨he, hb⟩
  exact ⟨he, ⟨below_step h.b hb.below⟩⟩
set_option maxHeartbeats 8000000 in
set_option maxRecDepth 100000 in
theorem gauss_Read.calls (b : ByteArray) (w : World) :
    Calls Try.prog 24 #[.string b] w fun e w' => e = .returned (.tuple #[.complex .f64 (readF b).1 (readF b).2.1, .int .i64 (readF b).2.2]) ∧ Below w.heap.size w w' := by
  by_cases h1 : b.size < 8
  · have h1b : decide ((b.size : Int) < 8) = true := decide_eq_true (by omega)
    rw [readF_short b h1]
    clear h1
    go_enter Try.func24, Try.ntmps24
    go_wp2
    go_ret2
    exact ⟨rfl, Below.refl _ _⟩
  · have h1b : decide ((b.size : Int) < 8) = false := decide_eq_false (by omega)
    by_cases h2 : b.size > 8
    · have h2b : decide (8 < (b.size : Int)) = true := decide_eq_true (by omega)
      rw [readF_long b h2]
      clear h1 h2
      go_enter Try.func24, Try.ntmps24
      go_wp2
      go_ret2
      exact ⟨rfl, Below.refl _ _⟩
    · have h2b : decide (8 < (b.size : Int)) = false := decide_eq_false (by omega)
      have h8 : b.size = 8 := by omega
      have hw1 := wd_lt b
      have e8 : b.extract 4 b.size = b.extract 4 8 := by rw [h8]
      have hw2 := wd_lt (b.extract 4 8)
      obtain ⟨g1, n1, p1, f1, r1⟩ := wide_run (wd b) hw1
      obtain ⟨g2, n2, p2, f2, r2⟩ := wide_run (wd (b.extract 4 8)) hw2
      have hno := readF_no b h8
      have hyes := readF_yes b h8
      rw [e8] at hno hyes
      have Hno := Aside0.mk hno
      have Hyes := Aside0.mk hyes
      clear hno hyes
      have HB1 := Aside0.mk (bits_ok b (by omega))
      have HB2 := Aside0.mk (bits_ok (b.extract 4 8) (by rw [ByteArray.size_extract]; omega))
      have q1 := float32frombits_run (wd b : Int)
      have q2 := float32frombits_run (wd (b.extract 4 8) : Int)
      rw [Int.toNat_natCast] at q1 q2
      have P1 := Aside0.mk p1
      have P2 := Aside0.mk p2
      have F1 := Aside0.mk f1
      have F2 := Aside0.mk f2
      clear p1 p2 f1 f2 h1 h2 hw1 hw2 e8
      have h4 : (4 ≤ (b.size : Int)) = True := eq_true (by omega)
      have h4n : (4 ≤ b.size) = True := eq_true (by omega)
      have h4s : ((b.size : Int) < 4) = False := eq_false (by omega)
      go_enter Try.func24, Try.ntmps24
      have HR : RB w w := ⟨Below.refl _ _⟩
      have hdr : ∀ w' n, RB w w' → RB w (w'.drewN n) := fun w' n h => ⟨pw_below_drewN h.b n⟩
      have hdr1 : ∀ w', RB w w' → RB w w'.drew := fun w' h => ⟨below_drew1 h.b⟩
      go_wp2_with (first | (fail))
      refine wp_region_noPanic ?_
      refine wp_region_held_drew (S := fun w' => RB w w') (by kernel_rfl) ?_ (fun hHeld => ?_)
      · exact hdr1 _ HR
      refine' wpAnyH_take (i := 0) (oi := _) (v := ?_) rfl (by kernel_rfl) (by kernel_rfl) (by kernel_rfl) (fun _ _ _ h => h) (Or.inl ⟨by rfl, ?_⟩) (by assumption) ?_
      rotate_left
      · intro w hSw; (try dsimp only at hSw); go_simp; first | done | with_reducible rfl
      try simp only [Act.put, List.setIfInBounds_toArray, List.set_cons_zero, List.set_cons_succ]
      refine' wpAnyH_take (i := 4) (oi := _) (v := ?_) rfl (by kernel_rfl) (by kernel_rfl) (by kernel_rfl) (fun _ _ _ h => h) (Or.inl ⟨by rfl, ?_⟩) (by assumption) ?_
      rotate_left
      · intro w hSw; (try dsimp only at hSw); go_simp; first | done | with_reducible rfl
      try simp only [Act.put, List.setIfInBounds_toArray, List.set_cons_zero, List.set_cons_succ]
      refine' wpAnyH_take (i := 5) (oi := _) (v := ?_) rfl (by kernel_rfl) (by kernel_rfl) (by kernel_rfl) (fun _ _ _ h => h) (Or.inl ⟨by rfl, ?_⟩) (by assumption) ?_
      rotate_left
      · intro w hSw; (try dsimp only at hSw); go_simp; first | done | with_reducible rfl
      try simp only [Act.put, List.setIfInBounds_toArray, List.set_cons_zero, List.set_cons_succ]
      refine wpAnyH_ready (rs := [1]) (by kernel_rfl) (by simp) ?_
      refine AllReadyH.cons (o := _) rfl (fun K hK => ?_) ?_
      · go_simp
        go_at_call 61
        refine (bits_keep (by assumption) b _ HB1.out).mono ?_
        rintro e w5 ⟨rfl, HR⟩
        go_wp2_with fail
        refine hK.out _ _ ?_ (fun hHeld => ?_)
        · (try dsimp only); first | assumption | go_keep
        clear hK K
        try simp only [Act.put, List.setIfInBounds_toArray, List.set_cons_zero, List.set_cons_succ]
        refine wpAnyH_ready (rs := [2]) (by kernel_rfl) (by simp) ?_
        refine AllReadyH.cons (o := _) rfl (fun K hK => ?_) ?_
        · go_simp
          refine hK.out _ _ ?_ (fun hHeld => ?_)
          · (try dsimp only); first | assumption | go_keep
          clear hK K
          try simp only [Act.put, List.setIfInBounds_toArray, List.set_cons_zero, List.set_cons_succ]
          refine wpAnyH_ready (rs := [3, 6]) (by kernel_rfl) (by simp) ?_
          refine AllReadyH.cons (o := _) rfl (fun K hK => ?_) ?_
          · go_simp
            refine hK.out _ _ ?_ (fun hHeld => ?_)
            · (try dsimp only); first | assumption | go_keep
            clear hK K
            try simp only [Act.put, List.setIfInBounds_toArray, List.set_cons_zero, List.set_cons_succ]
            refine wpAnyH_ready (rs := [6]) (by kernel_rfl) (by simp) ?_
            refine AllReadyH.cons (o := _) rfl (fun K hK => ?_) ?_
            · go_simp
              go_at_call 61
              refine (bits_keep (by assumption) (b.extract 4 8) _ HB2.out).mono ?_
              rintro e w5 ⟨rfl, HR⟩
              go_wp2_with fail
              refine hK.out _ _ ?_ (fun hHeld => ?_)
              · (try dsimp only); first | assumption | go_keep
              clear hK K
              try simp only [Act.put, List.setIfInBounds_toArray, List.set_cons_zero, List.set_cons_succ]
              refine wpAnyH_ready (rs := [7]) (by kernel_rfl) (by simp) ?_
              refine AllReadyH.cons (o := _) rfl (fun K hK => ?_) ?_
              · go_simp
                refine hK.out _ _ ?_ (fun hHeld => ?_)
                · (try dsimp only); first | assumption | go_keep
                clear hK K
                try simp only [Act.put, List.setIfInBounds_toArray, List.set_cons_zero, List.set_cons_succ]
                refine wpAnyH_ready (rs := [8]) (by kernel_rfl) (by simp) ?_
                refine AllReadyH.cons (o := _) rfl (fun K hK => ?_) ?_
                · go_simp
                  refine hK.out _ _ ?_ (fun hHeld => ?_)
                  · (try dsimp only); first | assumption | go_keep
                  clear hK K
                  try simp only [Act.put, List.setIfInBounds_toArray, List.set_cons_zero, List.set_cons_succ]
                  refine wpAnyH_ready (rs := [9]) (by kernel_rfl) (by simp) ?_
                  refine AllReadyH.cons (o := _) rfl (fun K hK => ?_) ?_
                  · go_simp
                    refine hK.out _ _ ?_ (fun hHeld => ?_)
                    · (try dsimp only); first | assumption | go_keep
                    clear hK K
                    try simp only [Act.put, List.setIfInBounds_toArray, List.set_cons_zero, List.set_cons_succ]
                    refine wpAnyH_ready (rs := [10]) (by kernel_rfl) (by simp) ?_
                    refine AllReadyH.cons (o := _) rfl (fun K hK => ?_) ?_
                    · go_simp
                      refine hK.out _ _ ?_ (fun hHeld => ?_)
                      · (try dsimp only); first | assumption | go_keep
                      clear hK K
                      try simp only [Act.put, List.setIfInBounds_toArray, List.set_cons_zero, List.set_cons_succ]
                      refine wpAnyH_done (by kernel_rfl) ?_ _
                      refine NoPanic.normal ?_
                      clear r1 r2 q1 q2
                      go_wp2_with (first | (fail))
                      refine (may_one _ _ _ _ rfl).mono ?_
                      rintro e wm ⟨rfl, rfl⟩
                      rw [P1.out, P2.out]
                      cases hm : ((wholeS (wd b)).2 && (wholeS (wd (b.extract 4 8))).2) with
                      | false =>
                        go_wp2_with (first | (fail))
                        go_ret2
                        exact ⟨by rw [Hno.out hm]; rfl, by repeat (first | exact HR.b | apply below_alloc | apply pw_below_drewN | apply below_drew1)⟩
                      | true =>
                        have hm2 := Bool.and_eq_true _ _ ▸ hm
                        go_wp2_with (first | (fail))
                        go_ret2
                        exact ⟨by rw [Hyes.out hm]; show Ending.returned (.tuple #[.complex .f64 (g1 _) (g2 _), .int .i64 0]) = _; rw [F1.out hm2.1, F2.out hm2.2], by repeat (first | exact HR.b | apply below_alloc | apply pw_below_drewN | apply below_drew1)⟩
                    exact AllReadyH.nil
                  exact AllReadyH.nil
                exact AllReadyH.nil
              exact AllReadyH.nil
            exact AllReadyH.nil
          refine AllReadyH.cons (o := _) rfl (fun K hK => ?_) ?_
          · go_simp
            go_at_call 61
            refine (bits_keep (by assumption) (b.extract 4 8) _ HB2.out).mono ?_
            rintro e w5 ⟨rfl, HR⟩
            go_wp2_with fail
            refine hK.out _ _ ?_ (fun hHeld => ?_)
            · (try dsimp only); first | assumption | go_keep
            clear hK K
            try simp only [Act.put, List.setIfInBounds_toArray, List.set_cons_zero, List.set_cons_succ]
            refine wpAnyH_ready (rs := [3, 7]) (by kernel_rfl) (by simp) ?_
            refine AllReadyH.cons (o := _) rfl (fun K hK => ?_) ?_
            · go_simp
              refine hK.out _ _ ?_ (fun hHeld => ?_)
              · (try dsimp only); first | assumption | go_keep
              clear hK K
              try simp only [Act.put, List.setIfInBounds_toArray, List.set_cons_zero, List.set_cons_succ]
              refine wpAnyH_ready (rs := [7]) (by kernel_rfl) (by simp) ?_
              refine AllReadyH.cons (o := _) rfl (fun K hK => ?_) ?_
              · go_simp
                refine hK.out _ _ ?_ (fun hHeld => ?_)
                · (try dsimp only); first | assumption | go_keep
                clear hK K
                try simp only [Act.put, List.setIfInBounds_toArray, List.set_cons_zero, List.set_cons_succ]
                refine wpAnyH_ready (rs := [8]) (by kernel_rfl) (by simp) ?_
                refine AllReadyH.cons (o := _) rfl (fun K hK => ?_) ?_
                · go_simp
                  refine hK.out _ _ ?_ (fun hHeld => ?_)
                  · (try dsimp only); first | assumption | go_keep
                  clear hK K
                  try simp only [Act.put, List.setIfInBounds_toArray, List.set_cons_zero, List.set_cons_succ]
                  refine wpAnyH_ready (rs := [9]) (by kernel_rfl) (by simp) ?_
                  refine AllReadyH.cons (o := _) rfl (fun K hK => ?_) ?_
                  · go_simp
                    refine hK.out _ _ ?_ (fun hHeld => ?_)
                    · (try dsimp only); first | assumption | go_keep
                    clear hK K
                    try simp only [Act.put, List.setIfInBounds_toArray, List.set_cons_zero, List.set_cons_succ]
                    refine wpAnyH_ready (rs := [10]) (by kernel_rfl) (by simp) ?_
                    refine AllReadyH.cons (o := _) rfl (fun K hK => ?_) ?_
                    · go_simp
                      refine hK.out _ _ ?_ (fun hHeld => ?_)
                      · (try dsimp only); first | assumption | go_keep
                      clear hK K
                      try simp only [Act.put, List.setIfInBounds_toArray, List.set_cons_zero, List.set_cons_succ]
                      refine wpAnyH_done (by kernel_rfl) ?_ _
                      refine NoPanic.normal ?_
                      clear r1 r2 q1 q2
                      go_wp2_with (first | (fail))
                      refine (may_one _ _ _ _ rfl).mono ?_
                      rintro e wm ⟨rfl, rfl⟩
                      rw [P1.out, P2.out]
                      cases hm : ((wholeS (wd b)).2 && (wholeS (wd (b.extract 4 8))).2) with
                      | false =>
                        go_wp2_with (first | (fail))
                        go_ret2
                        exact ⟨by rw [Hno.out hm]; rfl, by repeat (first | exact HR.b | apply below_alloc | apply pw_below_drewN | apply below_drew1)⟩
                      | true =>
                        have hm2 := Bool.and_eq_true _ _ ▸ hm
                        go_wp2_with (first | (fail))
                        go_ret2
                        exact ⟨by rw [Hyes.out hm]; show Ending.returned (.tuple #[.complex .f64 (g1 _) (g2 _), .int .i64 0]) = _; rw [F1.out hm2.1, F2.out hm2.2], by repeat (first | exact HR.b | apply below_alloc | apply pw_below_drewN | apply below_drew1)⟩
                    exact AllReadyH.nil
                  exact AllReadyH.nil
                exact AllReadyH.nil
              exact AllReadyH.nil
            refine AllReadyH.cons (o := _) rfl (fun K hK => ?_) ?_
            · go_simp
              refine hK.out _ _ ?_ (fun hHeld => ?_)
              · (try dsimp only); first | assumption | go_keep
              clear hK K
              try simp only [Act.put, List.setIfInBounds_toArray, List.set_cons_zero, List.set_cons_succ]
              refine wpAnyH_ready (rs := [3, 8]) (by kernel_rfl) (by simp) ?_
              refine AllReadyH.cons (o := _) rfl (fun K hK => ?_) ?_
              · go_simp
                refine hK.out _ _ ?_ (fun hHeld => ?_)
                · (try dsimp only); first | assumption | go_keep
                clear hK K
                try simp only [Act.put, List.setIfInBounds_toArray, List.set_cons_zero, List.set_cons_succ]
                refine wpAnyH_ready (rs := [8]) (by kernel_rfl) (by simp) ?_
                refine AllReadyH.cons (o := _) rfl (fun K hK => ?_) ?_
                · go_simp
                  refine hK.out _ _ ?_ (fun hHeld => ?_)
                  · (try dsimp only); first | assumption | go_keep
                  clear hK K
                  try simp only [Act.put, List.setIfInBounds_toArray, List.set_cons_zero, List.set_cons_succ]
                  refine wpAnyH_ready (rs := [9]) (by kernel_rfl) (by simp) ?_
                  refine AllReadyH.cons (o := _) rfl (fun K hK => ?_) ?_
                  · go_simp
                    refine hK.out _ _ ?_ (fun hHeld => ?_)
                    · (try dsimp only); first | assumption | go_keep
                    clear hK K
                    try simp only [Act.put, List.setIfInBounds_toArray, List.set_cons_zero, List.set_cons_succ]
                    refine wpAnyH_ready (rs := [10]) (by kernel_rfl) (by simp) ?_
                    refine AllReadyH.cons (o := _) rfl (fun K hK => ?_) ?_
                    · go_simp
                      refine hK.out _ _ ?_ (fun hHeld => ?_)
                      · (try dsimp only); first | assumption | go_keep
                      clear hK K
                      try simp only [Act.put, List.setIfInBounds_toArray, List.set_cons_zero, List.set_cons_succ]
                      refine wpAnyH_done (by kernel_rfl) ?_ _
                      refine NoPanic.normal ?_
                      clear r1 r2 q1 q2
                      go_wp2_with (first | (fail))
                      refine (may_one _ _ _ _ rfl).mono ?_
                      rintro e wm ⟨rfl, rfl⟩
                      rw [P1.out, P2.out]
                      cases hm : ((wholeS (wd b)).2 && (wholeS (wd (b.extract 4 8))).2) with
                      | false =>
                        go_wp2_with (first | (fail))
                        go_ret2
                        exact ⟨by rw [Hno.out hm]; rfl, by repeat (first | exact HR.b | apply below_alloc | apply pw_below_drewN | apply below_drew1)⟩
                      | true =>
                        have hm2 := Bool.and_eq_true _ _ ▸ hm
                        go_wp2_with (first | (fail))
                        go_ret2
                        exact ⟨by rw [Hyes.out hm]; show Ending.returned (.tuple #[.complex .f64 (g1 _) (g2 _), .int .i64 0]) = _; rw [F1.out hm2.1, F2.out hm2.2], by repeat (first | exact HR.b | apply below_alloc | apply pw_below_drewN | apply below_drew1)⟩
                    exact AllReadyH.nil
                  exact AllReadyH.nil
                exact AllReadyH.nil
              refine AllReadyH.cons (o := _) rfl (fun K hK => ?_) ?_
              · go_simp
                refine hK.out _ _ ?_ (fun hHeld => ?_)
                · (try dsimp only); first | assumption | go_keep
                clear hK K
                try simp only [Act.put, List.setIfInBounds_toArray, List.set_cons_zero, List.set_cons_succ]
                refine wpAnyH_ready (rs := [3]) (by kernel_rfl) (by simp) ?_
                refine AllReadyH.cons (o := _) rfl (fun K hK => ?_) ?_
                · go_simp
                  refine hK.out _ _ ?_ (fun hHeld => ?_)
                  · (try dsimp only); first | assumption | go_keep
                  clear hK K
                  try simp only [Act.put, List.setIfInBounds_toArray, List.set_cons_zero, List.set_cons_succ]
                  refine wpAnyH_ready (rs := [9]) (by kernel_rfl) (by simp) ?_
                  refine AllReadyH.cons (o := _) rfl (fun K hK => ?_) ?_
                  · go_simp
                    refine hK.out _ _ ?_ (fun hHeld => ?_)
                    · (try dsimp only); first | assumption | go_keep
                    clear hK K
                    try simp only [Act.put, List.setIfInBounds_toArray, List.set_cons_zero, List.set_cons_succ]
                    refine wpAnyH_ready (rs := [10]) (by kernel_rfl) (by simp) ?_
                    refine AllReadyH.cons (o := _) rfl (fun K hK => ?_) ?_
                    · go_simp
                      refine hK.out _ _ ?_ (fun hHeld => ?_)
                      · (try dsimp only); first | assumption | go_keep
                      clear hK K
                      try simp only [Act.put, List.setIfInBounds_toArray, List.set_cons_zero, List.set_cons_succ]
                      refine wpAnyH_done (by kernel_rfl) ?_ _
                      refine NoPanic.normal ?_
                      clear r1 r2 q1 q2
                      go_wp2_with (first | (fail))
                      refine (may_one _ _ _ _ rfl).mono ?_
                      rintro e wm ⟨rfl, rfl⟩
                      rw [P1.out, P2.out]
                      cases hm : ((wholeS (wd b)).2 && (wholeS (wd (b.extract 4 8))).2) with
                      | false =>
                        go_wp2_with (first | (fail))
                        go_ret2
                        exact ⟨by rw [Hno.out hm]; rfl, by repeat (first | exact HR.b | apply below_alloc | apply pw_below_drewN | apply below_drew1)⟩
                      | true =>
                        have hm2 := Bool.and_eq_true _ _ ▸ hm
                        go_wp2_with (first | (fail))
                        go_ret2
                        exact ⟨by rw [Hyes.out hm]; show Ending.returned (.tuple #[.complex .f64 (g1 _) (g2 _), .int .i64 0]) = _; rw [F1.out hm2.1, F2.out hm2.2], by repeat (first | exact HR.b | apply below_alloc | apply pw_below_drewN | apply below_drew1)⟩
                    exact AllReadyH.nil
                  exact AllReadyH.nil
                exact AllReadyH.nil
              exact AllReadyH.nil
            exact AllReadyH.nil
          exact AllReadyH.nil
        exact AllReadyH.nil
      exact AllReadyH.nil
theorem wholeS_small (v : Nat) (h : (wholeS v).2 = true) : -1048576 ≤ (wholeS v).1 ∧ (wholeS v).1 ≤ 1048576 := by
  unfold wholeS at h ⊢
  by_cases h0 : v = 0
  · rw [if_pos h0]; decide
  · rw [if_neg h0] at h ⊢
    by_cases h1 : v / 8388608 % 256 < 127 ∨ v / 8388608 % 256 > 147
    · rw [if_pos h1] at h; cases h
    · rw [if_neg h1] at h ⊢
      by_cases h2 : (v % 8388608 + 8388608) % 2 ^ (150 - v / 8388608 % 256) = 0
      · rw [if_pos h2] at h ⊢
        have := of_decide_eq_true h
        generalize (v % 8388608 + 8388608) / 2 ^ (150 - v / 8388608 % 256) = k at this ⊢
        unfold sgn
        dsimp only
        split <;> omega
      · rw [if_neg h2] at h; cases h
theorem readR_small (b : ByteArray) : (-1048576 ≤ (readR b).1 ∧ (readR b).1 ≤ 1048576) ∧ (-1048576 ≤ (readR b).2.1 ∧ (readR b).2.1 ≤ 1048576) := by
  unfold readR
  by_cases h1 : b.size < 8
  · rw [if_pos h1]; decide
  · rw [if_neg h1]
    by_cases h2 : b.size > 8
    · rw [if_pos h2]; decide
    · rw [if_neg h2]
      by_cases h3 : ((wholeS (wd b)).2 && (wholeS (wd (b.extract 4 b.size))).2) = true
      · rw [if_pos h3]
        rw [Bool.and_eq_true] at h3
        exact ⟨wholeS_small _ h3.1, wholeS_small _ h3.2⟩
      · rw [if_neg h3]; decide
theorem reck_PutN.calls (a b : Int) (h : nearR a b = true) (w : World) :
    Calls Try.prog 19 #[.complex .f64 (floatOfInt .f64 a) (floatOfInt .f64 b)] w fun e w' => e = .returned (.tuple #[.string (putR a b).1, .int .i64 (putR a b).2]) ∧ Below w.heap.size w w' := by
  obtain ⟨ha, hb⟩ := nearR_of h
  unfold putR
  cases hm : mayR a b with
  | true =>
    rw [if_pos rfl]
    exact reck_Put.calls a b hm w
  | false =>
    rw [if_neg (by simp)]
    exact gauss_Put.refused _ _ ((mayE_one a b (by omega) (by omega)).trans hm) w

end Go.Proofs.Ytpojamikfcmnoaa.X
