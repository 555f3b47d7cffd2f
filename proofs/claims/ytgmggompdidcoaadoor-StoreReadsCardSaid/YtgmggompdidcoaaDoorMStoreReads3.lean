import Derived.Test.YtgmggompdidcoaaDoorMStoreReads2
namespace Go.Proofs.YtgmggompdidcoaaDoor.X
open Go.RowKit Go.Proofs.YtgmggompdidcoaaDoorW.PrintWords Go.Proofs.YtgmggompdidcoaaDoorW.PrintLast Go.Proofs.YtgmggompdidcoaaDoorW.PrintMore
attribute [local go_sem] max2_int min2_int max_two min_two max_three min_three max_four min_four
set_option linter.unusedVariables false
set_option linter.unusedSimpArgs false
def agateref08_letter.f (a0 : Int) : Option (Bool) := if a0 ≥ 97 then (if a0 ≤ 122 then (some true) else (if a0 ≥ 65 then (if a0 ≤ 90 then (some true) else (if a0 ≥ 48 then (if a0 ≤ 57 then (some true) else (if a0 = 46 then (some true) else (if a0 = 95 then (some true) else (some (a0 == 45))))) else (if a0 = 46 then (some true) else (if a0 = 95 then (some true) else (some (a0 == 45)))))) else (if a0 ≥ 48 then (if a0 ≤ 57 then (some true) else (if a0 = 46 then (some true) else (if a0 = 95 then (some true) else (some (a0 == 45))))) else (if a0 = 46 then (some true) else (if a0 = 95 then (some true) else (some (a0 == 45))))))) else (if a0 ≥ 65 then (if a0 ≤ 90 then (some true) else (if a0 ≥ 48 then (if a0 ≤ 57 then (some true) else (if a0 = 46 then (some true) else (if a0 = 95 then (some true) else (some (a0 == 45))))) else (if a0 = 46 then (some true) else (if a0 = 95 then (some true) else (some (a0 == 45)))))) else (if a0 ≥ 48 then (if a0 ≤ 57 then (some true) else (if a0 = 46 then (some true) else (if a0 = 95 then (some true) else (some (a0 == 45))))) else (if a0 = 46 then (some true) else (if a0 = 95 then (some true) else (some (a0 == 45))))))
set_option maxHeartbeats 8000000 in
set_option maxRecDepth 100000 in
theorem agateref08_letter.calls (a0 : Int) (r : Bool) (w : World) (h : agateref08_letter.f a0 = some r) :
  Calls Tryd.prog 17 #[.int .u8 a0] w fun e w' => e = .returned (.bool r) ∧ Drawn0 w w' := by
 have H : (if a0 ≥ 97 then (if a0 ≤ 122 then (some true) else (if a0 ≥ 65 then (if a0 ≤ 90 then (some true) else (if a0 ≥ 48 then (if a0 ≤ 57 then (some true) else (if a0 = 46 then (some true) else (if a0 = 95 then (some true) else (some (a0 == 45))))) else (if a0 = 46 then (some true) else (if a0 = 95 then (some true) else (some (a0 == 45)))))) else (if a0 ≥ 48 then (if a0 ≤ 57 then (some true) else (if a0 = 46 then (some true) else (if a0 = 95 then (some true) else (some (a0 == 45))))) else (if a0 = 46 then (some true) else (if a0 = 95 then (some true) else (some (a0 == 45))))))) else (if a0 ≥ 65 then (if a0 ≤ 90 then (some true) else (if a0 ≥ 48 then (if a0 ≤ 57 then (some true) else (if a0 = 46 then (some true) else (if a0 = 95 then (some true) else (some (a0 == 45))))) else (if a0 = 46 then (some true) else (if a0 = 95 then (some true) else (some (a0 == 45)))))) else (if a0 ≥ 48 then (if a0 ≤ 57 then (some true) else (if a0 = 46 then (some true) else (if a0 = 95 then (some true) else (some (a0 == 45))))) else (if a0 = 46 then (some true) else (if a0 = 95 then (some true) else (some (a0 == 45))))))) = some r := h; clear h
 by_cases c2 : a0 ≥ 97
 ·
  rw [if_pos c2] at H; have c2b0 := decide_eq_true c2; clear c2
  by_cases c3 : a0 ≤ 122
  ·
   rw [if_pos c3] at H; have c3b0 := decide_eq_true c3; clear c3; obtain rfl := Option.some.inj H
   go_enter Tryd.func17, Tryd.ntmps17
   go_wp2
   go_ret
   exact ⟨by first | rfl | (simp; done) | (simp [*]; done), by repeat (first | exact Drawn0.refl _ | apply Drawn0.step)⟩
  ·
   rw [if_neg c3] at H; have c3b0 := decide_eq_false c3; clear c3
   by_cases c4 : a0 ≥ 65
   ·
    rw [if_pos c4] at H; have c4b0 := decide_eq_true c4; clear c4
    by_cases c5 : a0 ≤ 90
    ·
     rw [if_pos c5] at H; have c5b0 := decide_eq_true c5; clear c5; obtain rfl := Option.some.inj H
     go_enter Tryd.func17, Tryd.ntmps17
     go_wp2
     go_ret
     exact ⟨by first | rfl | (simp; done) | (simp [*]; done), by repeat (first | exact Drawn0.refl _ | apply Drawn0.step)⟩
    ·
     rw [if_neg c5] at H; have c5b0 := decide_eq_false c5; clear c5
     by_cases c6 : a0 ≥ 48
     ·
      rw [if_pos c6] at H; have c6b0 := decide_eq_true c6; clear c6
      by_cases c7 : a0 ≤ 57
      ·
       rw [if_pos c7] at H; have c7b0 := decide_eq_true c7; clear c7; obtain rfl := Option.some.inj H
       go_enter Tryd.func17, Tryd.ntmps17
       go_wp2
       go_ret
       exact ⟨by first | rfl | (simp; done) | (simp [*]; done), by repeat (first | exact Drawn0.refl _ | apply Drawn0.step)⟩
      ·
       rw [if_neg c7] at H; have c7b0 := decide_eq_false c7; clear c7
       by_cases c8 : a0 = 46
       ·
        rw [if_pos c8] at H; have c8b0 := beq_iff_eq.mpr c8; have c8b1 := bne_eq_false_iff_eq.mpr c8; clear c8; obtain rfl := Option.some.inj H
        go_enter Tryd.func17, Tryd.ntmps17
        go_wp2
        go_ret
        exact ⟨by first | rfl | (simp; done) | (simp [*]; done), by repeat (first | exact Drawn0.refl _ | apply Drawn0.step)⟩
       ·
        rw [if_neg c8] at H; have c8b0 := beq_eq_false_iff_ne.mpr c8; have c8b1 := bne_iff_ne.mpr c8
        by_cases c9 : a0 = 95
        ·
         rw [if_pos c9] at H; have c9b0 := beq_iff_eq.mpr c9; have c9b1 := bne_eq_false_iff_eq.mpr c9; clear c9; obtain rfl := Option.some.inj H
         go_enter Tryd.func17, Tryd.ntmps17
         go_wp2
         go_ret
         exact ⟨by first | rfl | (simp; done) | (simp [*]; done), by repeat (first | exact Drawn0.refl _ | apply Drawn0.step)⟩
        ·
         rw [if_neg c9] at H; have c9b0 := beq_eq_false_iff_ne.mpr c9; have c9b1 := bne_iff_ne.mpr c9; obtain rfl := Option.some.inj H
         go_enter Tryd.func17, Tryd.ntmps17
         go_wp2
         go_ret
         exact ⟨by first | rfl | (simp; done) | (simp [*]; done), by repeat (first | exact Drawn0.refl _ | apply Drawn0.step)⟩
     ·
      rw [if_neg c6] at H; have c6b0 := decide_eq_false c6; clear c6
      by_cases c10 : a0 = 46
      ·
       rw [if_pos c10] at H; have c10b0 := beq_iff_eq.mpr c10; have c10b1 := bne_eq_false_iff_eq.mpr c10; clear c10; obtain rfl := Option.some.inj H
       go_enter Tryd.func17, Tryd.ntmps17
       go_wp2
       go_ret
       exact ⟨by first | rfl | (simp; done) | (simp [*]; done), by repeat (first | exact Drawn0.refl _ | apply Drawn0.step)⟩
      ·
       rw [if_neg c10] at H; have c10b0 := beq_eq_false_iff_ne.mpr c10; have c10b1 := bne_iff_ne.mpr c10
       by_cases c11 : a0 = 95
       ·
        rw [if_pos c11] at H; have c11b0 := beq_iff_eq.mpr c11; have c11b1 := bne_eq_false_iff_eq.mpr c11; clear c11; obtain rfl := Option.some.inj H
        go_enter Tryd.func17, Tryd.ntmps17
        go_wp2
        go_ret
        exact ⟨by first | rfl | (simp; done) | (simp [*]; done), by repeat (first | exact Drawn0.refl _ | apply Drawn0.step)⟩
       ·
        rw [if_neg c11] at H; have c11b0 := beq_eq_false_iff_ne.mpr c11; have c11b1 := bne_iff_ne.mpr c11; obtain rfl := Option.some.inj H
        go_enter Tryd.func17, Tryd.ntmps17
        go_wp2
        go_ret
        exact ⟨by first | rfl | (simp; done) | (simp [*]; done), by repeat (first | exact Drawn0.refl _ | apply Drawn0.step)⟩
   ·
    rw [if_neg c4] at H; have c4b0 := decide_eq_false c4; clear c4
    by_cases c12 : a0 ≥ 48
    ·
     rw [if_pos c12] at H; have c12b0 := decide_eq_true c12; clear c12
     by_cases c13 : a0 ≤ 57
     ·
      rw [if_pos c13] at H; have c13b0 := decide_eq_true c13; clear c13; obtain rfl := Option.some.inj H
      go_enter Tryd.func17, Tryd.ntmps17
      go_wp2
      go_ret
      exact ⟨by first | rfl | (simp; done) | (simp [*]; done), by repeat (first | exact Drawn0.refl _ | apply Drawn0.step)⟩
     ·
      rw [if_neg c13] at H; have c13b0 := decide_eq_false c13; clear c13
      by_cases c14 : a0 = 46
      ·
       rw [if_pos c14] at H; have c14b0 := beq_iff_eq.mpr c14; have c14b1 := bne_eq_false_iff_eq.mpr c14; clear c14; obtain rfl := Option.some.inj H
       go_enter Tryd.func17, Tryd.ntmps17
       go_wp2
       go_ret
       exact ⟨by first | rfl | (simp; done) | (simp [*]; done), by repeat (first | exact Drawn0.refl _ | apply Drawn0.step)⟩
      ·
       rw [if_neg c14] at H; have c14b0 := beq_eq_false_iff_ne.mpr c14; have c14b1 := bne_iff_ne.mpr c14
       by_cases c15 : a0 = 95
       ·
        rw [if_pos c15] at H; have c15b0 := beq_iff_eq.mpr c15; have c15b1 := bne_eq_false_iff_eq.mpr c15; clear c15; obtain rfl := Option.some.inj H
        go_enter Tryd.func17, Tryd.ntmps17
        go_wp2
        go_ret
        exact ⟨by first | rfl | (simp; done) | (simp [*]; done), by repeat (first | exact Drawn0.refl _ | apply Drawn0.step)⟩
       ·
        rw [if_neg c15] at H; have c15b0 := beq_eq_false_iff_ne.mpr c15; have c15b1 := bne_iff_ne.mpr c15; obtain rfl := Option.some.inj H
        go_enter Tryd.func17, Tryd.ntmps17
        go_wp2
        go_ret
        exact ⟨by first | rfl | (simp; done) | (simp [*]; done), by repeat (first | exact Drawn0.refl _ | apply Drawn0.step)⟩
    ·
     rw [if_neg c12] at H; have c12b0 := decide_eq_false c12; clear c12
     by_cases c16 : a0 = 46
     ·
      rw [if_pos c16] at H; have c16b0 := beq_iff_eq.mpr c16; have c16b1 := bne_eq_false_iff_eq.mpr c16; clear c16; obtain rfl := Option.some.inj H
      go_enter Tryd.func17, Tryd.ntmps17
      go_wp2
      go_ret
      exact ⟨by first | rfl | (simp; done) | (simp [*]; done), by repeat (first | exact Drawn0.refl _ | apply Drawn0.step)⟩
     ·
      rw [if_neg c16] at H; have c16b0 := beq_eq_false_iff_ne.mpr c16; have c16b1 := bne_iff_ne.mpr c16
      by_cases c17 : a0 = 95
      ·
       rw [if_pos c17] at H; have c17b0 := beq_iff_eq.mpr c17; have c17b1 := bne_eq_false_iff_eq.mpr c17; clear c17; obtain rfl := Option.some.inj H
       go_enter Tryd.func17, Tryd.ntmps17
       go_wp2
       go_ret
       exact ⟨by first | rfl | (simp; done) | (simp [*]; done), by repeat (first | exact Drawn0.refl _ | apply Drawn0.step)⟩
      ·
       rw [if_neg c17] at H; have c17b0 := beq_eq_false_iff_ne.mpr c17; have c17b1 := bne_iff_ne.mpr c17; obtain rfl := Option.some.inj H
       go_enter Tryd.func17, Tryd.ntmps17
       go_wp2
       go_ret
       exact ⟨by first | rfl | (simp; done) | (simp [*]; done), by repeat (first | exact Drawn0.refl _ | apply Drawn0.step)⟩
 ·
  rw [if_neg c2] at H; have c2b0 := decide_eq_false c2; clear c2
  by_cases c18 : a0 ≥ 65
  ·
   rw [if_pos c18] at H; have c18b0 := decide_eq_true c18; clear c18
   by_cases c19 : a0 ≤ 90
   ·
    rw [if_pos c19] at H; have c19b0 := decide_eq_true c19; clear c19; obtain rfl := Option.some.inj H
    go_enter Tryd.func17, Tryd.ntmps17
    go_wp2
    go_ret
    exact ⟨by first | rfl | (simp; done) | (simp [*]; done), by repeat (first | exact Drawn0.refl _ | apply Drawn0.step)⟩
   ·
    rw [if_neg c19] at H; have c19b0 := decide_eq_false c19; clear c19
    by_cases c20 : a0 ≥ 48
    ·
     rw [if_pos c20] at H; have c20b0 := decide_eq_true c20; clear c20
     by_cases c21 : a0 ≤ 57
     ·
      rw [if_pos c21] at H; have c21b0 := decide_eq_true c21; clear c21; obtain rfl := Option.some.inj H
      go_enter Tryd.func17, Tryd.ntmps17
      go_wp2
      go_ret
      exact ⟨by first | rfl | (simp; done) | (simp [*]; done), by repeat (first | exact Drawn0.refl _ | apply Drawn0.step)⟩
     ·
      rw [if_neg c21] at H; have c21b0 := decide_eq_false c21; clear c21
      by_cases c22 : a0 = 46
      ·
       rw [if_pos c22] at H; have c22b0 := beq_iff_eq.mpr c22; have c22b1 := bne_eq_false_iff_eq.mpr c22; clear c22; obtain rfl := Option.some.inj H
       go_enter Tryd.func17, Tryd.ntmps17
       go_wp2
       go_ret
       exact ⟨by first | rfl | (simp; done) | (simp [*]; done), by repeat (first | exact Drawn0.refl _ | apply Drawn0.step)⟩
      ·
       rw [if_neg c22] at H; have c22b0 := beq_eq_false_iff_ne.mpr c22; have c22b1 := bne_iff_ne.mpr c22
       by_cases c23 : a0 = 95
       ·
        rw [if_pos c23] at H; have c23b0 := beq_iff_eq.mpr c23; have c23b1 := bne_eq_false_iff_eq.mpr c23; clear c23; obtain rfl := Option.some.inj H
        go_enter Tryd.func17, Tryd.ntmps17
        go_wp2
        go_ret
        exact ⟨by first | rfl | (simp; done) | (simp [*]; done), by repeat (first | exact Drawn0.refl _ | apply Drawn0.step)⟩
       ·
        rw [if_neg c23] at H; have c23b0 := beq_eq_false_iff_ne.mpr c23; have c23b1 := bne_iff_ne.mpr c23; obtain rfl := Option.some.inj H
        go_enter Tryd.func17, Tryd.ntmps17
        go_wp2
        go_ret
        exact ⟨by first | rfl | (simp; done) | (simp [*]; done), by repeat (first | exact Drawn0.refl _ | apply Drawn0.step)⟩
    ·
     rw [if_neg c20] at H; have c20b0 := decide_eq_false c20; clear c20
     by_cases c24 : a0 = 46
     ·
      rw [if_pos c24] at H; have c24b0 := beq_iff_eq.mpr c24; have c24b1 := bne_eq_false_iff_eq.mpr c24; clear c24; obtain rfl := Option.some.inj H
      go_enter Tryd.func17, Tryd.ntmps17
      go_wp2
      go_ret
      exact ⟨by first | rfl | (simp; done) | (simp [*]; done), by repeat (first | exact Drawn0.refl _ | apply Drawn0.step)⟩
     ·
      rw [if_neg c24] at H; have c24b0 := beq_eq_false_iff_ne.mpr c24; have c24b1 := bne_iff_ne.mpr c24
      by_cases c25 : a0 = 95
      ·
       rw [if_pos c25] at H; have c25b0 := beq_iff_eq.mpr c25; have c25b1 := bne_eq_false_iff_eq.mpr c25; clear c25; obtain rfl := Option.some.inj H
       go_enter Tryd.func17, Tryd.ntmps17
       go_wp2
       go_ret
       exact ⟨by first | rfl | (simp; done) | (simp [*]; done), by repeat (first | exact Drawn0.refl _ | apply Drawn0.step)⟩
      ·
       rw [if_neg c25] at H; have c25b0 := beq_eq_false_iff_ne.mpr c25; have c25b1 := bne_iff_ne.mpr c25; obtain rfl := Option.some.inj H
       go_enter Tryd.func17, Tryd.ntmps17
       go_wp2
       go_ret
       exact ⟨by first | rfl | (simp; done) | (simp [*]; done), by repeat (first | exact Drawn0.refl _ | apply Drawn0.step)⟩
  ·
   rw [if_neg c18] at H; have c18b0 := decide_eq_false c18; clear c18
   by_cases c26 : a0 ≥ 48
   ·
    rw [if_pos c26] at H; have c26b0 := decide_eq_true c26; clear c26
    by_cases c27 : a0 ≤ 57
    ·
     rw [if_pos c27] at H; have c27b0 := decide_eq_true c27; clear c27; obtain rfl := Option.some.inj H
     go_enter Tryd.func17, Tryd.ntmps17
     go_wp2
     go_ret
     exact ⟨by first | rfl | (simp; done) | (simp [*]; done), by repeat (first | exact Drawn0.refl _ | apply Drawn0.step)⟩
    ·
     rw [if_neg c27] at H; have c27b0 := decide_eq_false c27; clear c27
     by_cases c28 : a0 = 46
     ·
      rw [if_pos c28] at H; have c28b0 := beq_iff_eq.mpr c28; have c28b1 := bne_eq_false_iff_eq.mpr c28; clear c28; obtain rfl := Option.some.inj H
      go_enter Tryd.func17, Tryd.ntmps17
      go_wp2
      go_ret
      exact ⟨by first | rfl | (simp; done) | (simp [*]; done), by repeat (first | exact Drawn0.refl _ | apply Drawn0.step)⟩
     ·
      rw [if_neg c28] at H; have c28b0 := beq_eq_false_iff_ne.mpr c28; have c28b1 := bne_iff_ne.mpr c28
      by_cases c29 : a0 = 95
      ·
       rw [if_pos c29] at H; have c29b0 := beq_iff_eq.mpr c29; have c29b1 := bne_eq_false_iff_eq.mpr c29; clear c29; obtain rfl := Option.some.inj H
       go_enter Tryd.func17, Tryd.ntmps17
       go_wp2
       go_ret
       exact ⟨by first | rfl | (simp; done) | (simp [*]; done), by repeat (first | exact Drawn0.refl _ | apply Drawn0.step)⟩
      ·
       rw [if_neg c29] at H; have c29b0 := beq_eq_false_iff_ne.mpr c29; have c29b1 := bne_iff_ne.mpr c29; obtain rfl := Option.some.inj H
       go_enter Tryd.func17, Tryd.ntmps17
       go_wp2
       go_ret
       exact ⟨by first | rfl | (simp; done) | (simp [*]; done), by repeat (first | exact Drawn0.refl _ | apply Drawn0.step)⟩
   ·
    rw [if_neg c26] at H; have c26b0 := decide_eq_false c26; clear c26
    by_cases c30 : a0 = 46
    ·
     rw [if_pos c30] at H; have c30b0 := beq_iff_eq.mpr c30; have c30b1 := bne_eq_false_iff_eq.mpr c30; clear c30; obtain rfl := Option.some.inj H
     go_enter Tryd.func17, Tryd.ntmps17
     go_wp2
     go_ret
     exact ⟨by first | rfl | (simp; done) | (simp [*]; done), by repeat (first | exact Drawn0.refl _ | apply Drawn0.step)⟩
    ·
     rw [if_neg c30] at H; have c30b0 := beq_eq_false_iff_ne.mpr c30; have c30b1 := bne_iff_ne.mpr c30
     by_cases c31 : a0 = 95
     ·
      rw [if_pos c31] at H; have c31b0 := beq_iff_eq.mpr c31; have c31b1 := bne_eq_false_iff_eq.mpr c31; clear c31; obtain rfl := Option.some.inj H
      go_enter Tryd.func17, Tryd.ntmps17
      go_wp2
      go_ret
      exact ⟨by first | rfl | (simp; done) | (simp [*]; done), by repeat (first | exact Drawn0.refl _ | apply Drawn0.step)⟩
     ·
      rw [if_neg c31] at H; have c31b0 := beq_eq_false_iff_ne.mpr c31; have c31b1 := bne_iff_ne.mpr c31; obtain rfl := Option.some.inj H
      go_enter Tryd.func17, Tryd.ntmps17
      go_wp2
      go_ret
      exact ⟨by first | rfl | (simp; done) | (simp [*]; done), by repeat (first | exact Drawn0.refl _ | apply Drawn0.step)⟩
end Go.Proofs.YtgmggompdidcoaaDoor.X
namespace Go.Proofs.YtgmggompdidcoaaDoor.X
open Go.RowKit Go.Proofs.YtgmggompdidcoaaDoorW.PrintWords Go.Proofs.YtgmggompdidcoaaDoorW.PrintLast Go.Proofs.YtgmggompdidcoaaDoorW.PrintMore
attribute [local go_sem] max2_int min2_int max_two min_two max_three min_three max_four min_four
set_option linter.unusedVariables false
set_option linter.unusedSimpArgs false
mutual
def agateref08_Key.l0 : Nat → ByteArray → Int → Int → Option (Bool)
 | 0, _, _, _ => none
 | k + 1, x0, x3, x4 => if x4 ≤ (x0.size : Int) then (if x4 < (x0.size : Int) then (if 0 ≤ x4 then (agateref08_Key.j1 k x0 x3 x4 ((bt x0 x4) != 47)) else (none)) else (agateref08_Key.j1 k x0 x3 x4 false)) else (some (decide ((x0.size : Int) ≤ 255)))
def agateref08_Key.j1 : Nat → ByteArray → Int → Int → Bool → Option (Bool)
 | 0, _, _, _, _ => none
 | k + 1, x0, x3, x4, x21 => if x21 = true then (if 0 ≤ x4 then (if x4 < (x0.size : Int) then ((agateref08_letter.f (bt x0 x4)).bind fun t101 => (if t101 = true then (agateref08_Key.l0 k x0 x3 (wrap64 (x4 + 1))) else (some false))) else (none)) else (none)) else (if 0 ≤ x3 then (if x3 ≤ x4 then (if x4 ≤ (x0.size : Int) then (if (x0.extract (x3 : Int).toNat (x4 : Int).toNat).toList = ([] : List UInt8) then (some false) else (if (x0.extract (x3 : Int).toNat (x4 : Int).toNat).toList = ([46] : List UInt8) then (some false) else (if (x0.extract (x3 : Int).toNat (x4 : Int).toNat).toList = ([46, 46] : List UInt8) then (some false) else (agateref08_Key.l0 k x0 (wrap64 (x4 + 1)) (wrap64 (x4 + 1)))))) else (none)) else (none)) else (none))
end
def agateref08_Key.f (k : Nat) (a0 : ByteArray) : Option (Bool) := agateref08_Key.l0 k a0 0 0
set_option maxHeartbeats 8000000 in
set_option maxRecDepth 100000 in
theorem agateref08_Key.calls (k : Nat) (a0 : ByteArray) (r : Bool) (w : World) (h : agateref08_Key.f k a0 = some r) :
  Calls Tryd.prog 12 #[.string a0] w fun e w' => e = .returned (.bool r) ∧ Drawn0 w w' := by
 have H : (agateref08_Key.l0 k a0 0 0) = some r := h; clear h; have H' := mk0 H; clear H
 go_enter Tryd.func12, Tryd.ntmps12
 go_wp2
 go_loopg [3, 4] k (fun kq v3 v4 w' => ∃ (x3_1 : Int) (x4_1 : Int), v3 = .int .i64 x3_1 ∧ v4 = .int .i64 x4_1 ∧ Aside0 (agateref08_Key.l0 kq a0 x3_1 x4_1 = some r) ∧ Aside0 (kq ≤ k) ∧ Drawn0 w w')
 case atStart => exact ⟨(0), (0), cl0, cl0, H', ⟨Nat.le_refl _⟩, by repeat (first | exact Drawn0.refl _ | apply Drawn0.step)⟩
 case round =>
  clear H'; obtain ⟨x3_1, x4_1, rfl, rfl, HA, HK1, ⟨m1, rfl⟩⟩ := hrel
  cases gk with
  | zero => exact absurd HA.out (by simp [agateref08_Key.l0])
  | succ k1 =>
   have H := HA.out; clear HA
   simp only [agateref08_Key.l0] at H
   by_cases c2 : x4_1 ≤ (a0.size : Int)
   ·
    rw [if_pos c2] at H; have c2b0 := decide_eq_true c2; clear c2; have HC3 := mk0 H; clear H
    go_upto_region 5 with (fail)
    go_cut [21] (fun v21 wc => ∃ (kq : Nat) (x21_2 : Bool), v21 = .bool x21_2 ∧ Aside0 (agateref08_Key.j1 kq a0 x3_1 x4_1 x21_2 = some r) ∧ Aside0 (kq ≤ k1) ∧ Drawn0 w wc)
    case first =>
     have H := HC3.out; clear HC3
     by_cases c4 : x4_1 < (a0.size : Int)
     ·
      rw [if_pos c4] at H; have c4b0 := decide_eq_true c4; clear c4
      (first | rw [c4b0] | (simp only [i64_w, i32_w]; rw [c4b0]) | skip)
      replace H := ifS H; obtain ⟨c5, H⟩ := H; have c5b0 := decide_eq_true c5; clear c5; have H' := mk0 H; clear H; have p6 : 0 ≤ (x4_1 : Int) := ofd; have q6 : x4_1 < (a0.size : Int) := ofd; have hx6 := bt_at a0 x4_1; replace p6 := eq_true p6; replace q6 := eq_true q6
      go_wp2
      go_meet
      case rel => exact ⟨_, (((bt a0 x4_1) != 47)), cl0, H', ⟨by have := HK1.out; first | omega | exact Nat.le_refl _⟩, by repeat (first | exact Drawn0.refl _ | apply Drawn0.step)⟩
     ·
      rw [if_neg c4] at H; have c4b0 := decide_eq_false c4; clear c4
      (first | rw [c4b0] | (simp only [i64_w, i32_w]; rw [c4b0]) | skip)
      have H' := mk0 H; clear H
      go_wp2
      go_meet
      case rel => exact ⟨_, (false), cl0, H', ⟨by have := HK1.out; first | omega | exact Nat.le_refl _⟩, by repeat (first | exact Drawn0.refl _ | apply Drawn0.step)⟩
    case rest =>
     clear HC3; try clear c2; try clear c2b0
     obtain ⟨kq, x21_2, rfl, HA, HJ2, ⟨mc2, rfl⟩⟩ := hcut
     cases kq with
     | zero => exact absurd HA.out (by simp [agateref08_Key.j1])
     | succ kj2 =>
      have H := HA.out; clear HA
      simp only [agateref08_Key.j1] at H
      by_cases c7 : x21_2 = true
      ·
       subst c7; have H1 : (if 0 ≤ x4_1 then (if x4_1 < (a0.size : Int) then ((agateref08_letter.f (bt a0 x4_1)).bind fun t101 => (if t101 = true then (agateref08_Key.l0 kj2 a0 x3_1 (wrap64 (x4_1 + 1))) else (some false))) else (none)) else (none)) = some r := by rw [if_pos rfl] at H; exact H
       clear H; have H := H1; clear H1; replace H := ifS H; obtain ⟨c8, H⟩ := H; have c8b0 := decide_eq_true c8; clear c8; replace H := ifS H; obtain ⟨c9, H⟩ := H; have c9b0 := decide_eq_true c9; clear c9; replace H := bnd H; obtain ⟨t101, A11, H⟩ := H
       by_cases c12 : t101 = true
       ·
        subst c12; have H1 : (agateref08_Key.l0 kj2 a0 x3_1 (wrap64 (x4_1 + 1))) = some r := by rw [if_pos rfl] at H; exact H
        clear H; have H := H1; clear H1; have H' := mk0 H; clear H; have p10 : 0 ≤ (x4_1 : Int) := ofd; have q10 : x4_1 < (a0.size : Int) := ofd; have hx10 := bt_at a0 x4_1; replace p10 := eq_true p10; replace q10 := eq_true q10
        go_wp2_with (first | ((with_reducible refine gate_callee (f := 17) rfl ?_); refine glE (some 25) rfl rfl Tryd.func17 (by kernel_rfl) rfl #[.int .u8 (bt a0 x4_1)] rfl ?_; (with_reducible refine (agateref08_letter.calls (bt a0 x4_1) true _ A11.out).mono ?_); rintro e w' ⟨rfl, ⟨nd, rfl⟩⟩; refine ⟨_, rfl, ?_⟩))
        go_roundg kj2
        case measure => have := HK1.out; have := HJ2.out; omega
        case rel => exact ⟨(x3_1), (wrap64 (x4_1 + 1)), cl0, cl0, H', ⟨by have := HK1.out; have := HJ2.out; omega⟩, by repeat (first | exact Drawn0.refl _ | apply Drawn0.step)⟩
       ·
        replace c12 := Bool.eq_false_iff.mpr c12; subst c12; have H1 : (some false) = some r := by rw [if_neg (show ¬ (false = true) by decide)] at H; exact H
        clear H; have H := H1; clear H1; obtain rfl := Option.some.inj H; have p10 : 0 ≤ (x4_1 : Int) := ofd; have q10 : x4_1 < (a0.size : Int) := ofd; have hx10 := bt_at a0 x4_1; replace p10 := eq_true p10; replace q10 := eq_true q10
        go_wp2_with (first | ((with_reducible refine gate_callee (f := 17) rfl ?_); refine glE (some 25) rfl rfl Tryd.func17 (by kernel_rfl) rfl #[.int .u8 (bt a0 x4_1)] rfl ?_; (with_reducible refine (agateref08_letter.calls (bt a0 x4_1) false _ A11.out).mono ?_); rintro e w' ⟨rfl, ⟨nd, rfl⟩⟩; refine ⟨_, rfl, ?_⟩))
        go_ret
        exact ⟨by first | rfl | (simp; done) | (simp [*]; done), by repeat (first | exact Drawn0.refl _ | apply Drawn0.step)⟩
      ·
       replace c7 := Bool.eq_false_iff.mpr c7; subst c7; have H1 : (if 0 ≤ x3_1 then (if x3_1 ≤ x4_1 then (if x4_1 ≤ (a0.size : Int) then (if (a0.extract (x3_1 : Int).toNat (x4_1 : Int).toNat).toList = ([] : List UInt8) then (some false) else (if (a0.extract (x3_1 : Int).toNat (x4_1 : Int).toNat).toList = ([46] : List UInt8) then (some false) else (if (a0.extract (x3_1 : Int).toNat (x4_1 : Int).toNat).toList = ([46, 46] : List UInt8) then (some false) else (agateref08_Key.l0 kj2 a0 (wrap64 (x4_1 + 1)) (wrap64 (x4_1 + 1)))))) else (none)) else (none)) else (none)) = some r := by rw [if_neg (show ¬ (false = true) by decide)] at H; exact H
       clear H; have H := H1; clear H1; replace H := ifS H; obtain ⟨c13, H⟩ := H; have c13b0 := eq_true c13; have c13b1 := decide_eq_true c13; clear c13; replace H := ifS H; obtain ⟨c14, H⟩ := H; have c14b0 := eq_true c14; have c14b1 := decide_eq_true c14; clear c14; replace H := ifS H; obtain ⟨c15, H⟩ := H; have c15b0 := eq_true c15; have c15b1 := decide_eq_true c15; clear c15
       by_cases c16 : (a0.extract (x3_1 : Int).toNat (x4_1 : Int).toNat).toList = ([] : List UInt8)
       ·
        rw [if_pos c16] at H; have c16b0 := beq_iff_eq.mpr c16; have c16b1 := bne_eq_false_iff_eq.mpr c16; clear c16; obtain rfl := Option.some.inj H
        go_wp2
        go_ret
        exact ⟨by first | rfl | (simp; done) | (simp [*]; done), by repeat (first | exact Drawn0.refl _ | apply Drawn0.step)⟩
       ·
        rw [if_neg c16] at H; have c16b0 := beq_eq_false_iff_ne.mpr c16; have c16b1 := bne_iff_ne.mpr c16
        by_cases c17 : (a0.extract (x3_1 : Int).toNat (x4_1 : Int).toNat).toList = ([46] : List UInt8)
        ·
         rw [if_pos c17] at H; have c17b0 := beq_iff_eq.mpr c17; have c17b1 := bne_eq_false_iff_eq.mpr c17; clear c17; obtain rfl := Option.some.inj H
         go_wp2
         go_ret
         exact ⟨by first | rfl | (simp; done) | (simp [*]; done), by repeat (first | exact Drawn0.refl _ | apply Drawn0.step)⟩
        ·
         rw [if_neg c17] at H; have c17b0 := beq_eq_false_iff_ne.mpr c17; have c17b1 := bne_iff_ne.mpr c17
         by_cases c18 : (a0.extract (x3_1 : Int).toNat (x4_1 : Int).toNat).toList = ([46, 46] : List UInt8)
         ·
          rw [if_pos c18] at H; have c18b0 := beq_iff_eq.mpr c18; have c18b1 := bne_eq_false_iff_eq.mpr c18; clear c18; obtain rfl := Option.some.inj H
          go_wp2
          go_ret
          exact ⟨by first | rfl | (simp; done) | (simp [*]; done), by repeat (first | exact Drawn0.refl _ | apply Drawn0.step)⟩
         ·
          rw [if_neg c18] at H; have c18b0 := beq_eq_false_iff_ne.mpr c18; have c18b1 := bne_iff_ne.mpr c18; have H' := mk0 H; clear H
          go_wp2
          go_roundg kj2
          case measure => have := HK1.out; have := HJ2.out; omega
          case rel => exact ⟨(wrap64 (x4_1 + 1)), (wrap64 (x4_1 + 1)), cl0, cl0, H', ⟨by have := HK1.out; have := HJ2.out; omega⟩, by repeat (first | exact Drawn0.refl _ | apply Drawn0.step)⟩
   ·
    rw [if_neg c2] at H; have c2b0 := decide_eq_false c2; clear c2; obtain rfl := Option.some.inj H
    go_wp2
    go_ret
    exact ⟨by first | rfl | (simp; done) | (simp [*]; done), by repeat (first | exact Drawn0.refl _ | apply Drawn0.step)⟩
end Go.Proofs.YtgmggompdidcoaaDoor.X
