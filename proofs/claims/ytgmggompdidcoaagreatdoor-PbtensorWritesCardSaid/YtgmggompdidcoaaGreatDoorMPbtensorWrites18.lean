import Derived.Test.YtgmggompdidcoaaGreatDoorMPbtensorWrites2
import Derived.Test.YtgmggompdidcoaaGreatDoorMPbtensorWrites16
import Derived.Test.YtgmggompdidcoaaGreatDoorMPbtensorWrites17
import Derived.Test.YtgmggompdidcoaaGreatDoorMPbtensorWrites3
import Derived.WideMake
namespace Go.Proofs.YtgmggompdidcoaaGreatDoor.X
open Go.RowKit Go.Proofs.YtgmggompdidcoaaGreatDoorW.PrintWords Go.Proofs.YtgmggompdidcoaaGreatDoorW.PrintLast Go.Proofs.YtgmggompdidcoaaGreatDoorW.PrintMore
attribute [local go_sem] max2_int min2_int max_two min_two max_three min_three max_four min_four
set_option linter.unusedVariables false
set_option linter.unusedSimpArgs false
def agateref08_letter.f (a0 : Int) : Option (Bool) := if a0 ≥ 97 then (if a0 ≤ 122 then (some true) else (if a0 ≥ 65 then (if a0 ≤ 90 then (some true) else (if a0 ≥ 48 then (if a0 ≤ 57 then (some true) else (if a0 = 46 then (some true) else (if a0 = 95 then (some true) else (some (a0 == 45))))) else (if a0 = 46 then (some true) else (if a0 = 95 then (some true) else (some (a0 == 45)))))) else (if a0 ≥ 48 then (if a0 ≤ 57 then (some true) else (if a0 = 46 then (some true) else (if a0 = 95 then (some true) else (some (a0 == 45))))) else (if a0 = 46 then (some true) else (if a0 = 95 then (some true) else (some (a0 == 45))))))) else (if a0 ≥ 65 then (if a0 ≤ 90 then (some true) else (if a0 ≥ 48 then (if a0 ≤ 57 then (some true) else (if a0 = 46 then (some true) else (if a0 = 95 then (some true) else (some (a0 == 45))))) else (if a0 = 46 then (some true) else (if a0 = 95 then (some true) else (some (a0 == 45)))))) else (if a0 ≥ 48 then (if a0 ≤ 57 then (some true) else (if a0 = 46 then (some true) else (if a0 = 95 then (some true) else (some (a0 == 45))))) else (if a0 = 46 then (some true) else (if a0 = 95 then (some true) else (some (a0 == 45))))))
set_option maxHeartbeats 8000000 in
set_option maxRecDepth 100000 in
theorem agateref08_letter.calls (a0 : Int) (r : Bool) (w : World) (h : agateref08_letter.f a0 = some r) :
  Calls Tryz.prog 79 #[.int .u8 a0] w fun e w' => e = .returned (.bool r) ∧ Drawn0 w w' := by
 have H : (if a0 ≥ 97 then (if a0 ≤ 122 then (some true) else (if a0 ≥ 65 then (if a0 ≤ 90 then (some true) else (if a0 ≥ 48 then (if a0 ≤ 57 then (some true) else (if a0 = 46 then (some true) else (if a0 = 95 then (some true) else (some (a0 == 45))))) else (if a0 = 46 then (some true) else (if a0 = 95 then (some true) else (some (a0 == 45)))))) else (if a0 ≥ 48 then (if a0 ≤ 57 then (some true) else (if a0 = 46 then (some true) else (if a0 = 95 then (some true) else (some (a0 == 45))))) else (if a0 = 46 then (some true) else (if a0 = 95 then (some true) else (some (a0 == 45))))))) else (if a0 ≥ 65 then (if a0 ≤ 90 then (some true) else (if a0 ≥ 48 then (if a0 ≤ 57 then (some true) else (if a0 = 46 then (some true) else (if a0 = 95 then (some true) else (some (a0 == 45))))) else (if a0 = 46 then (some true) else (if a0 = 95 then (some true) else (some (a0 == 45)))))) else (if a0 ≥ 48 then (if a0 ≤ 57 then (some true) else (if a0 = 46 then (some true) else (if a0 = 95 then (some true) else (some (a0 == 45))))) else (if a0 = 46 then (some true) else (if a0 = 95 then (some true) else (some (a0 == 45))))))) = some r := h; clear h
 by_cases c2 : a0 ≥ 97
 ·
  rw [if_pos c2] at H; have c2b0 := decide_eq_true c2; clear c2
  by_cases c3 : a0 ≤ 122
  ·
   rw [if_pos c3] at H; have c3b0 := decide_eq_true c3; clear c3; obtain rfl := Option.some.inj H
   go_enter Tryz.func79, Tryz.ntmps79
   go_wp2
   go_ret
   exact ⟨by first | rfl | (simp; done) | (simp [*]; done), by repeat (first | exact Drawn0.refl _ | apply Drawn0.step)⟩
  ·
   rw [if_neg c3] at H; have c3b0 := decide_eq_false c3; clear c3
   by_cases c4 : a0 ≥ 65
   ·
    rw [if_pos c4] at H; have c4b0 := decide_eq_true c4; clear c4
    by_cases c5 : a0 ≤ 90
    ·
     rw [if_pos c5] at H; have c5b0 := decide_eq_true c5; clear c5; obtain rfl := Option.some.inj H
     go_enter Tryz.func79, Tryz.ntmps79
     go_wp2
     go_ret
     exact ⟨by first | rfl | (simp; done) | (simp [*]; done), by repeat (first | exact Drawn0.refl _ | apply Drawn0.step)⟩
    ·
     rw [if_neg c5] at H; have c5b0 := decide_eq_false c5; clear c5
     by_cases c6 : a0 ≥ 48
     ·
      rw [if_pos c6] at H; have c6b0 := decide_eq_true c6; clear c6
      by_cases c7 : a0 ≤ 57
      ·
       rw [if_pos c7] at H; have c7b0 := decide_eq_true c7; clear c7; obtain rfl := Option.some.inj H
       go_enter Tryz.func79, Tryz.ntmps79
       go_wp2
       go_ret
       exact ⟨by first | rfl | (simp; done) | (simp [*]; done), by repeat (first | exact Drawn0.refl _ | apply Drawn0.step)⟩
      ·
       rw [if_neg c7] at H; have c7b0 := decide_eq_false c7; clear c7
       by_cases c8 : a0 = 46
       ·
        rw [if_pos c8] at H; have c8b0 := beq_iff_eq.mpr c8; have c8b1 := bne_eq_false_iff_eq.mpr c8; clear c8; obtain rfl := Option.some.inj H
        go_enter Tryz.func79, Tryz.ntmps79
        go_wp2
        go_ret
        exact ⟨by first | rfl | (simp; done) | (simp [*]; done), by repeat (first | exact Drawn0.refl _ | apply Drawn0.step)⟩
       ·
        rw [if_neg c8] at H; have c8b0 := beq_eq_false_iff_ne.mpr c8; have c8b1 := bne_iff_ne.mpr c8
        by_cases c9 : a0 = 95
        ·
         rw [if_pos c9] at H; have c9b0 := beq_iff_eq.mpr c9; have c9b1 := bne_eq_false_iff_eq.mpr c9; clear c9; obtain rfl := Option.some.inj H
         go_enter Tryz.func79, Tryz.ntmps79
         go_wp2
         go_ret
         exact ⟨by first | rfl | (simp; done) | (simp [*]; done), by repeat (first | exact Drawn0.refl _ | apply Drawn0.step)⟩
        ·
         rw [if_neg c9] at H; have c9b0 := beq_eq_false_iff_ne.mpr c9; have c9b1 := bne_iff_ne.mpr c9; obtain rfl := Option.some.inj H
         go_enter Tryz.func79, Tryz.ntmps79
         go_wp2
         go_ret
         exact ⟨by first | rfl | (simp; done) | (simp [*]; done), by repeat (first | exact Drawn0.refl _ | apply Drawn0.step)⟩
     ·
      rw [if_neg c6] at H; have c6b0 := decide_eq_false c6; clear c6
      by_cases c10 : a0 = 46
      ·
       rw [if_pos c10] at H; have c10b0 := beq_iff_eq.mpr c10; have c10b1 := bne_eq_false_iff_eq.mpr c10; clear c10; obtain rfl := Option.some.inj H
       go_enter Tryz.func79, Tryz.ntmps79
       go_wp2
       go_ret
       exact ⟨by first | rfl | (simp; done) | (simp [*]; done), by repeat (first | exact Drawn0.refl _ | apply Drawn0.step)⟩
      ·
       rw [if_neg c10] at H; have c10b0 := beq_eq_false_iff_ne.mpr c10; have c10b1 := bne_iff_ne.mpr c10
       by_cases c11 : a0 = 95
       ·
        rw [if_pos c11] at H; have c11b0 := beq_iff_eq.mpr c11; have c11b1 := bne_eq_false_iff_eq.mpr c11; clear c11; obtain rfl := Option.some.inj H
        go_enter Tryz.func79, Tryz.ntmps79
        go_wp2
        go_ret
        exact ⟨by first | rfl | (simp; done) | (simp [*]; done), by repeat (first | exact Drawn0.refl _ | apply Drawn0.step)⟩
       ·
        rw [if_neg c11] at H; have c11b0 := beq_eq_false_iff_ne.mpr c11; have c11b1 := bne_iff_ne.mpr c11; obtain rfl := Option.some.inj H
        go_enter Tryz.func79, Tryz.ntmps79
        go_wp2
        go_ret
        exact ⟨by first | rfl | (simp; done) | (simp [*]; done), by repeat (first | exact Drawn0.refl _ | apply Drawn0.step)⟩
   ·
    rw [if_neg c4] at H; have c4b0 := decide_eq_false c4; clear c4
    by_cases c12 : a0 ≥ 48
    ·
     rw [if_pos c12] at H; have c12b0 := decide_eq_true c12; clear c12
     by_cases c13 : a0 ≤ 57
     ·
      rw [if_pos c13] at H; have c13b0 := decide_eq_true c13; clear c13; obtain rfl := Option.some.inj H
      go_enter Tryz.func79, Tryz.ntmps79
      go_wp2
      go_ret
      exact ⟨by first | rfl | (simp; done) | (simp [*]; done), by repeat (first | exact Drawn0.refl _ | apply Drawn0.step)⟩
     ·
      rw [if_neg c13] at H; have c13b0 := decide_eq_false c13; clear c13
      by_cases c14 : a0 = 46
      ·
       rw [if_pos c14] at H; have c14b0 := beq_iff_eq.mpr c14; have c14b1 := bne_eq_false_iff_eq.mpr c14; clear c14; obtain rfl := Option.some.inj H
       go_enter Tryz.func79, Tryz.ntmps79
       go_wp2
       go_ret
       exact ⟨by first | rfl | (simp; done) | (simp [*]; done), by repeat (first | exact Drawn0.refl _ | apply Drawn0.step)⟩
      ·
       rw [if_neg c14] at H; have c14b0 := beq_eq_false_iff_ne.mpr c14; have c14b1 := bne_iff_ne.mpr c14
       by_cases c15 : a0 = 95
       ·
        rw [if_pos c15] at H; have c15b0 := beq_iff_eq.mpr c15; have c15b1 := bne_eq_false_iff_eq.mpr c15; clear c15; obtain rfl := Option.some.inj H
        go_enter Tryz.func79, Tryz.ntmps79
        go_wp2
        go_ret
        exact ⟨by first | rfl | (simp; done) | (simp [*]; done), by repeat (first | exact Drawn0.refl _ | apply Drawn0.step)⟩
       ·
        rw [if_neg c15] at H; have c15b0 := beq_eq_false_iff_ne.mpr c15; have c15b1 := bne_iff_ne.mpr c15; obtain rfl := Option.some.inj H
        go_enter Tryz.func79, Tryz.ntmps79
        go_wp2
        go_ret
        exact ⟨by first | rfl | (simp; done) | (simp [*]; done), by repeat (first | exact Drawn0.refl _ | apply Drawn0.step)⟩
    ·
     rw [if_neg c12] at H; have c12b0 := decide_eq_false c12; clear c12
     by_cases c16 : a0 = 46
     ·
      rw [if_pos c16] at H; have c16b0 := beq_iff_eq.mpr c16; have c16b1 := bne_eq_false_iff_eq.mpr c16; clear c16; obtain rfl := Option.some.inj H
      go_enter Tryz.func79, Tryz.ntmps79
      go_wp2
      go_ret
      exact ⟨by first | rfl | (simp; done) | (simp [*]; done), by repeat (first | exact Drawn0.refl _ | apply Drawn0.step)⟩
     ·
      rw [if_neg c16] at H; have c16b0 := beq_eq_false_iff_ne.mpr c16; have c16b1 := bne_iff_ne.mpr c16
      by_cases c17 : a0 = 95
      ·
       rw [if_pos c17] at H; have c17b0 := beq_iff_eq.mpr c17; have c17b1 := bne_eq_false_iff_eq.mpr c17; clear c17; obtain rfl := Option.some.inj H
       go_enter Tryz.func79, Tryz.ntmps79
       go_wp2
       go_ret
       exact ⟨by first | rfl | (simp; done) | (simp [*]; done), by repeat (first | exact Drawn0.refl _ | apply Drawn0.step)⟩
      ·
       rw [if_neg c17] at H; have c17b0 := beq_eq_false_iff_ne.mpr c17; have c17b1 := bne_iff_ne.mpr c17; obtain rfl := Option.some.inj H
       go_enter Tryz.func79, Tryz.ntmps79
       go_wp2
       go_ret
       exact ⟨by first | rfl | (simp; done) | (simp [*]; done), by repeat (first | exact Drawn0.refl _ | apply Drawn0.step)⟩
 ·
  rw [if_neg c2] at H; have c2b0 := decide_eq_false c2; clear c2
  by_cases c18 : a0 ≥ 65
  ·
   rw [if_pos c18] at H; have c18b0 := decide_eq_true c18; clear c18
   by_cases c19 : a0 ≤ 90
   ·
    rw [if_pos c19] at H; have c19b0 := decide_eq_true c19; clear c19; obtain rfl := Option.some.inj H
    go_enter Tryz.func79, Tryz.ntmps79
    go_wp2
    go_ret
    exact ⟨by first | rfl | (simp; done) | (simp [*]; done), by repeat (first | exact Drawn0.refl _ | apply Drawn0.step)⟩
   ·
    rw [if_neg c19] at H; have c19b0 := decide_eq_false c19; clear c19
    by_cases c20 : a0 ≥ 48
    ·
     rw [if_pos c20] at H; have c20b0 := decide_eq_true c20; clear c20
     by_cases c21 : a0 ≤ 57
     ·
      rw [if_pos c21] at H; have c21b0 := decide_eq_true c21; clear c21; obtain rfl := Option.some.inj H
      go_enter Tryz.func79, Tryz.ntmps79
      go_wp2
      go_ret
      exact ⟨by first | rfl | (simp; done) | (simp [*]; done), by repeat (first | exact Drawn0.refl _ | apply Drawn0.step)⟩
     ·
      rw [if_neg c21] at H; have c21b0 := decide_eq_false c21; clear c21
      by_cases c22 : a0 = 46
      ·
       rw [if_pos c22] at H; have c22b0 := beq_iff_eq.mpr c22; have c22b1 := bne_eq_false_iff_eq.mpr c22; clear c22; obtain rfl := Option.some.inj H
       go_enter Tryz.func79, Tryz.ntmps79
       go_wp2
       go_ret
       exact ⟨by first | rfl | (simp; done) | (simp [*]; done), by repeat (first | exact Drawn0.refl _ | apply Drawn0.step)⟩
      ·
       rw [if_neg c22] at H; have c22b0 := beq_eq_false_iff_ne.mpr c22; have c22b1 := bne_iff_ne.mpr c22
       by_cases c23 : a0 = 95
       ·
        rw [if_pos c23] at H; have c23b0 := beq_iff_eq.mpr c23; have c23b1 := bne_eq_false_iff_eq.mpr c23; clear c23; obtain rfl := Option.some.inj H
        go_enter Tryz.func79, Tryz.ntmps79
        go_wp2
        go_ret
        exact ⟨by first | rfl | (simp; done) | (simp [*]; done), by repeat (first | exact Drawn0.refl _ | apply Drawn0.step)⟩
       ·
        rw [if_neg c23] at H; have c23b0 := beq_eq_false_iff_ne.mpr c23; have c23b1 := bne_iff_ne.mpr c23; obtain rfl := Option.some.inj H
        go_enter Tryz.func79, Tryz.ntmps79
        go_wp2
        go_ret
        exact ⟨by first | rfl | (simp; done) | (simp [*]; done), by repeat (first | exact Drawn0.refl _ | apply Drawn0.step)⟩
    ·
     rw [if_neg c20] at H; have c20b0 := decide_eq_false c20; clear c20
     by_cases c24 : a0 = 46
     ·
      rw [if_pos c24] at H; have c24b0 := beq_iff_eq.mpr c24; have c24b1 := bne_eq_false_iff_eq.mpr c24; clear c24; obtain rfl := Option.some.inj H
      go_enter Tryz.func79, Tryz.ntmps79
      go_wp2
      go_ret
      exact ⟨by first | rfl | (simp; done) | (simp [*]; done), by repeat (first | exact Drawn0.refl _ | apply Drawn0.step)⟩
     ·
      rw [if_neg c24] at H; have c24b0 := beq_eq_false_iff_ne.mpr c24; have c24b1 := bne_iff_ne.mpr c24
      by_cases c25 : a0 = 95
      ·
       rw [if_pos c25] at H; have c25b0 := beq_iff_eq.mpr c25; have c25b1 := bne_eq_false_iff_eq.mpr c25; clear c25; obtain rfl := Option.some.inj H
       go_enter Tryz.func79, Tryz.ntmps79
       go_wp2
       go_ret
       exact ⟨by first | rfl | (simp; done) | (simp [*]; done), by repeat (first | exact Drawn0.refl _ | apply Drawn0.step)⟩
      ·
       rw [if_neg c25] at H; have c25b0 := beq_eq_false_iff_ne.mpr c25; have c25b1 := bne_iff_ne.mpr c25; obtain rfl := Option.some.inj H
       go_enter Tryz.func79, Tryz.ntmps79
       go_wp2
       go_ret
       exact ⟨by first | rfl | (simp; done) | (simp [*]; done), by repeat (first | exact Drawn0.refl _ | apply Drawn0.step)⟩
  ·
   rw [if_neg c18] at H; have c18b0 := decide_eq_false c18; clear c18
   by_cases c26 : a0 ≥ 48
   ·
    rw [if_pos c26] at H; have c26b0 := decide_eq_true c26; clear c26
    by_cases c27 : a0 ≤ 57
    ·
     rw [if_pos c27] at H; have c27b0 := decide_eq_true c27; clear c27; obtain rfl := Option.some.inj H
     go_enter Tryz.func79, Tryz.ntmps79
     go_wp2
     go_ret
     exact ⟨by first | rfl | (simp; done) | (simp [*]; done), by repeat (first | exact Drawn0.refl _ | apply Drawn0.step)⟩
    ·
     rw [if_neg c27] at H; have c27b0 := decide_eq_false c27; clear c27
     by_cases c28 : a0 = 46
     ·
      rw [if_pos c28] at H; have c28b0 := beq_iff_eq.mpr c28; have c28b1 := bne_eq_false_iff_eq.mpr c28; clear c28; obtain rfl := Option.some.inj H
      go_enter Tryz.func79, Tryz.ntmps79
      go_wp2
      go_ret
      exact ⟨by first | rfl | (simp; done) | (simp [*]; done), by repeat (first | exact Drawn0.refl _ | apply Drawn0.step)⟩
     ·
      rw [if_neg c28] at H; have c28b0 := beq_eq_false_iff_ne.mpr c28; have c28b1 := bne_iff_ne.mpr c28
      by_cases c29 : a0 = 95
      ·
       rw [if_pos c29] at H; have c29b0 := beq_iff_eq.mpr c29; have c29b1 := bne_eq_false_iff_eq.mpr c29; clear c29; obtain rfl := Option.some.inj H
       go_enter Tryz.func79, Tryz.ntmps79
       go_wp2
       go_ret
       exact ⟨by first | rfl | (simp; done) | (simp [*]; done), by repeat (first | exact Drawn0.refl _ | apply Drawn0.step)⟩
      ·
       rw [if_neg c29] at H; have c29b0 := beq_eq_false_iff_ne.mpr c29; have c29b1 := bne_iff_ne.mpr c29; obtain rfl := Option.some.inj H
       go_enter Tryz.func79, Tryz.ntmps79
       go_wp2
       go_ret
       exact ⟨by first | rfl | (simp; done) | (simp [*]; done), by repeat (first | exact Drawn0.refl _ | apply Drawn0.step)⟩
   ·
    rw [if_neg c26] at H; have c26b0 := decide_eq_false c26; clear c26
    by_cases c30 : a0 = 46
    ·
     rw [if_pos c30] at H; have c30b0 := beq_iff_eq.mpr c30; have c30b1 := bne_eq_false_iff_eq.mpr c30; clear c30; obtain rfl := Option.some.inj H
     go_enter Tryz.func79, Tryz.ntmps79
     go_wp2
     go_ret
     exact ⟨by first | rfl | (simp; done) | (simp [*]; done), by repeat (first | exact Drawn0.refl _ | apply Drawn0.step)⟩
    ·
     rw [if_neg c30] at H; have c30b0 := beq_eq_false_iff_ne.mpr c30; have c30b1 := bne_iff_ne.mpr c30
     by_cases c31 : a0 = 95
     ·
      rw [if_pos c31] at H; have c31b0 := beq_iff_eq.mpr c31; have c31b1 := bne_eq_false_iff_eq.mpr c31; clear c31; obtain rfl := Option.some.inj H
      go_enter Tryz.func79, Tryz.ntmps79
      go_wp2
      go_ret
      exact ⟨by first | rfl | (simp; done) | (simp [*]; done), by repeat (first | exact Drawn0.refl _ | apply Drawn0.step)⟩
     ·
      rw [if_neg c31] at H; have c31b0 := beq_eq_false_iff_ne.mpr c31; have c31b1 := bne_iff_ne.mpr c31; obtain rfl := Option.some.inj H
      go_enter Tryz.func79, Tryz.ntmps79
      go_wp2
      go_ret
      exact ⟨by first | rfl | (simp; done) | (simp [*]; done), by repeat (first | exact Drawn0.refl _ | apply Drawn0.step)⟩
end Go.Proofs.YtgmggompdidcoaaGreatDoor.X
namespace Go.Proofs.YtgmggompdidcoaaGreatDoor.X
open Go.RowKit Go.Proofs.YtgmggompdidcoaaGreatDoorW.PrintWords Go.Proofs.YtgmggompdidcoaaGreatDoorW.PrintLast Go.Proofs.YtgmggompdidcoaaGreatDoorW.PrintMore
attribute [local go_sem] max2_int min2_int max_two min_two max_three min_three max_four min_four
set_option linter.unusedVariables false
set_option linter.unusedSimpArgs false
mutual
def agateref08_Key.l0 : Nat → ByteArray → Int → Int → Option (Bool)
 | 0, _, _, _ => none
 | k + 1, x0, x3, x4 => if x4 ≤ (x0.size : Int) then (if x4 < (x0.size : Int) then (if 0 ≤ x4 then (agateref08_Key.j1 k x0 x3 x4 ((bt x0 x4) != 47)) else (none)) else (agateref08_Key.j1 k x0 x3 x4 false)) else (some (decide ((x0.size : Int) ≤ 255)))
def agateref08_Key.j1 : Nat → ByteArray → Int → Int → Bool → Option (Bool)
 | 0, _, _, _, _ => none
 | k + 1, x0, x3, x4, x21 => if x21 = true then (if 0 ≤ x4 then (if x4 < (x0.size : Int) then ((agateref08_letter.f (bt x0 x4)).bind fun t101 => (if t101 = true then (agateref08_Key.l0 k x0 x3 (wrap64 (x4 + 1))) else (some false))) else (none)) else (none)) else (if 0 ≤ x3 then (if x3 ≤ x4 then (if x4 ≤ (x0.size : Int) then (if (x0.extract (x3 : Int).toNat (x4 : Int).toNat).toList = ([] : List UInt8) then (some false) else (if (x0.extract (x3 : Int).toNat (x4 : Int).toNat).toList = ([46] : List UInt8) then (some false) else (if (x0.extract (x3 : Int).toNat (x4 : Int).toNat).toList = ([46, 46] : List UInt8) then (some false) else (agateref08_Key.l0 k x0 (wrap64 (x4 + 1)) (wrap64 (x4 + 1)))))) else (none)) else (none)) else (none))
end
def agateref08_Key.f (k : Nat) (a0 : ByteArray) : Option (Bool) := agateref08_Key.l0 k a0 0 0
set_option maxHeartbeats 8000000 in
set_option maxRecDepth 100000 in
theorem agateref08_Key.calls (k : Nat) (a0 : ByteArray) (r : Bool) (w : World) (h : agateref08_Key.f k a0 = some r) :
  Calls Tryz.prog 42 #[.string a0] w fun e w' => e = .returned (.bool r) ∧ Drawn0 w w' := by
 have H : (agateref08_Key.l0 k a0 0 0) = some r := h; clear h; have H' := mk0 H; clear H
 go_enter Tryz.func42, Tryz.ntmps42
 go_wp2
 go_loopg [3, 4] k (fun kq v3 v4 w' => ∃ (x3_1 : Int) (x4_1 : Int), v3 = .int .i64 x3_1 ∧ v4 = .int .i64 x4_1 ∧ Aside0 (agateref08_Key.l0 kq a0 x3_1 x4_1 = some r) ∧ Aside0 (kq ≤ k) ∧ Drawn0 w w')
 case atStart => exact ⟨(0), (0), cl0, cl0, H', ⟨Nat.le_refl _⟩, by repeat (first | exact Drawn0.refl _ | apply Drawn0.step)⟩
 case round =>
  clear H'; obtain ⟨x3_1, x4_1, rfl, rfl, HA, HK1, ⟨m1, rfl⟩⟩ := hrel
  cases gk with
  | zero => exact absurd HA.out (by simp [agateref08_Key.l0])
  | succ k1 =>
   have H := HA.out; clear HA
   simp only [agateref08_Key.l0] at H
   by_cases c2 : x4_1 ≤ (a0.size : Int)
   ·
    rw [if_pos c2] at H; have c2b0 := decide_eq_true c2; clear c2; have HC3 := mk0 H; clear H
    go_upto_region 5 with (fail)
    go_cut [21] (fun v21 wc => ∃ (kq : Nat) (x21_2 : Bool), v21 = .bool x21_2 ∧ Aside0 (agateref08_Key.j1 kq a0 x3_1 x4_1 x21_2 = some r) ∧ Aside0 (kq ≤ k1) ∧ Drawn0 w wc)
    case first =>
     have H := HC3.out; clear HC3
     by_cases c4 : x4_1 < (a0.size : Int)
     ·
      rw [if_pos c4] at H; have c4b0 := decide_eq_true c4; clear c4
      (first | rw [c4b0] | (simp only [i64_w, i32_w]; rw [c4b0]) | skip)
      replace H := ifS H; obtain ⟨c5, H⟩ := H; have c5b0 := decide_eq_true c5; clear c5; have H' := mk0 H; clear H; have p6 : 0 ≤ (x4_1 : Int) := ofd; have q6 : x4_1 < (a0.size : Int) := ofd; have hx6 := bt_at a0 x4_1; replace p6 := eq_true p6; replace q6 := eq_true q6
      go_wp2
      go_meet
      case rel => exact ⟨_, (((bt a0 x4_1) != 47)), cl0, H', ⟨by have := HK1.out; first | omega | exact Nat.le_refl _⟩, by repeat (first | exact Drawn0.refl _ | apply Drawn0.step)⟩
     ·
      rw [if_neg c4] at H; have c4b0 := decide_eq_false c4; clear c4
      (first | rw [c4b0] | (simp only [i64_w, i32_w]; rw [c4b0]) | skip)
      have H' := mk0 H; clear H
      go_wp2
      go_meet
      case rel => exact ⟨_, (false), cl0, H', ⟨by have := HK1.out; first | omega | exact Nat.le_refl _⟩, by repeat (first | exact Drawn0.refl _ | apply Drawn0.step)⟩
    case rest =>
     clear HC3; try clear c2; try clear c2b0
     obtain ⟨kq, x21_2, rfl, HA, HJ2, ⟨mc2, rfl⟩⟩ := hcut
     cases kq with
     | zero => exact absurd HA.out (by simp [agateref08_Key.j1])
     | succ kj2 =>
      have H := HA.out; clear HA
      simp only [agateref08_Key.j1] at H
      by_cases c7 : x21_2 = true
      ·
       subst c7; have H1 : (if 0 ≤ x4_1 then (if x4_1 < (a0.size : Int) then ((agateref08_letter.f (bt a0 x4_1)).bind fun t101 => (if t101 = true then (agateref08_Key.l0 kj2 a0 x3_1 (wrap64 (x4_1 + 1))) else (some false))) else (none)) else (none)) = some r := by rw [if_pos rfl] at H; exact H
       clear H; have H := H1; clear H1; replace H := ifS H; obtain ⟨c8, H⟩ := H; have c8b0 := decide_eq_true c8; clear c8; replace H := ifS H; obtain ⟨c9, H⟩ := H; have c9b0 := decide_eq_true c9; clear c9; replace H := bnd H; obtain ⟨t101, A11, H⟩ := H
       by_cases c12 : t101 = true
       ·
        subst c12; have H1 : (agateref08_Key.l0 kj2 a0 x3_1 (wrap64 (x4_1 + 1))) = some r := by rw [if_pos rfl] at H; exact H
        clear H; have H := H1; clear H1; have H' := mk0 H; clear H; have p10 : 0 ≤ (x4_1 : Int) := ofd; have q10 : x4_1 < (a0.size : Int) := ofd; have hx10 := bt_at a0 x4_1; replace p10 := eq_true p10; replace q10 := eq_true q10
        go_wp2_with (first | ((with_reducible refine gate_callee (f := 79) rfl ?_); refine glE (some 25) rfl rfl Tryz.func79 (by kernel_rfl) rfl #[.int .u8 (bt a0 x4_1)] rfl ?_; (with_reducible refine (agateref08_letter.calls (bt a0 x4_1) true _ A11.out).mono ?_); rintro e w' ⟨rfl, ⟨nd, rfl⟩⟩; refine ⟨_, rfl, ?_⟩))
        go_roundg kj2
        case measure => have := HK1.out; have := HJ2.out; omega
        case rel => exact ⟨(x3_1), (wrap64 (x4_1 + 1)), cl0, cl0, H', ⟨by have := HK1.out; have := HJ2.out; omega⟩, by repeat (first | exact Drawn0.refl _ | apply Drawn0.step)⟩
       ·
        replace c12 := Bool.eq_false_iff.mpr c12; subst c12; have H1 : (some false) = some r := by rw [if_neg (show ¬ (false = true) by decide)] at H; exact H
        clear H; have H := H1; clear H1; obtain rfl := Option.some.inj H; have p10 : 0 ≤ (x4_1 : Int) := ofd; have q10 : x4_1 < (a0.size : Int) := ofd; have hx10 := bt_at a0 x4_1; replace p10 := eq_true p10; replace q10 := eq_true q10
        go_wp2_with (first | ((with_reducible refine gate_callee (f := 79) rfl ?_); refine glE (some 25) rfl rfl Tryz.func79 (by kernel_rfl) rfl #[.int .u8 (bt a0 x4_1)] rfl ?_; (with_reducible refine (agateref08_letter.calls (bt a0 x4_1) false _ A11.out).mono ?_); rintro e w' ⟨rfl, ⟨nd, rfl⟩⟩; refine ⟨_, rfl, ?_⟩))
        go_ret
        exact ⟨by first | rfl | (simp; done) | (simp [*]; done), by repeat (first | exact Drawn0.refl _ | apply Drawn0.step)⟩
      ·
       replace c7 := Bool.eq_false_iff.mpr c7; subst c7; have H1 : (if 0 ≤ x3_1 then (if x3_1 ≤ x4_1 then (if x4_1 ≤ (a0.size : Int) then (if (a0.extract (x3_1 : Int).toNat (x4_1 : Int).toNat).toList = ([] : List UInt8) then (some false) else (if (a0.extract (x3_1 : Int).toNat (x4_1 : Int).toNat).toList = ([46] : List UInt8) then (some false) else (if (a0.extract (x3_1 : Int).toNat (x4_1 : Int).toNat).toList = ([46, 46] : List UInt8) then (some false) else (agateref08_Key.l0 kj2 a0 (wrap64 (x4_1 + 1)) (wrap64 (x4_1 + 1)))))) else (none)) else (none)) else (none)) = some r := by rw [if_neg (show ¬ (false = true) by decide)] at H; exact H
       clear H; have H := H1; clear H1; replace H := ifS H; obtain ⟨c13, H⟩ := H; have c13b0 := eq_true c13; have c13b1 := decide_eq_true c13; clear c13; replace H := ifS H; obtain ⟨c14, H⟩ := H; have c14b0 := eq_true c14; have c14b1 := decide_eq_true c14; clear c14; replace H := ifS H; obtain ⟨c15, H⟩ := H; have c15b0 := eq_true c15; have c15b1 := decide_eq_true c15; clear c15
       by_cases c16 : (a0.extract (x3_1 : Int).toNat (x4_1 : Int).toNat).toList = ([] : List UInt8)
       ·
        rw [if_pos c16] at H; have c16b0 := beq_iff_eq.mpr c16; have c16b1 := bne_eq_false_iff_eq.mpr c16; clear c16; obtain rfl := Option.some.inj H
        go_wp2
        go_ret
        exact ⟨by first | rfl | (simp; done) | (simp [*]; done), by repeat (first | exact Drawn0.refl _ | apply Drawn0.step)⟩
       ·
        rw [if_neg c16] at H; have c16b0 := beq_eq_false_iff_ne.mpr c16; have c16b1 := bne_iff_ne.mpr c16
        by_cases c17 : (a0.extract (x3_1 : Int).toNat (x4_1 : Int).toNat).toList = ([46] : List UInt8)
        ·
         rw [if_pos c17] at H; have c17b0 := beq_iff_eq.mpr c17; have c17b1 := bne_eq_false_iff_eq.mpr c17; clear c17; obtain rfl := Option.some.inj H
         go_wp2
         go_ret
         exact ⟨by first | rfl | (simp; done) | (simp [*]; done), by repeat (first | exact Drawn0.refl _ | apply Drawn0.step)⟩
        ·
         rw [if_neg c17] at H; have c17b0 := beq_eq_false_iff_ne.mpr c17; have c17b1 := bne_iff_ne.mpr c17
         by_cases c18 : (a0.extract (x3_1 : Int).toNat (x4_1 : Int).toNat).toList = ([46, 46] : List UInt8)
         ·
          rw [if_pos c18] at H; have c18b0 := beq_iff_eq.mpr c18; have c18b1 := bne_eq_false_iff_eq.mpr c18; clear c18; obtain rfl := Option.some.inj H
          go_wp2
          go_ret
          exact ⟨by first | rfl | (simp; done) | (simp [*]; done), by repeat (first | exact Drawn0.refl _ | apply Drawn0.step)⟩
         ·
          rw [if_neg c18] at H; have c18b0 := beq_eq_false_iff_ne.mpr c18; have c18b1 := bne_iff_ne.mpr c18; have H' := mk0 H; clear H
          go_wp2
          go_roundg kj2
          case measure => have := HK1.out; have := HJ2.out; omega
          case rel => exact ⟨(wrap64 (x4_1 + 1)), (wrap64 (x4_1 + 1)), cl0, cl0, H', ⟨by have := HK1.out; have := HJ2.out; omega⟩, by repeat (first | exact Drawn0.refl _ | apply Drawn0.step)⟩
   ·
    rw [if_neg c2] at H; have c2b0 := decide_eq_false c2; clear c2; obtain rfl := Option.some.inj H
    go_wp2
    go_ret
    exact ⟨by first | rfl | (simp; done) | (simp [*]; done), by repeat (first | exact Drawn0.refl _ | apply Drawn0.step)⟩
end Go.Proofs.YtgmggompdidcoaaGreatDoor.X
namespace Go.Proofs.YtgmggompdidcoaaGreatDoor.X
open Go.RowKit Go.Proofs.YtgmggompdidcoaaGreatDoorW.PrintWords Go.Proofs.YtgmggompdidcoaaGreatDoorW.PrintLast Go.Proofs.YtgmggompdidcoaaGreatDoorW.PrintMore
attribute [local go_sem] max2_int min2_int max_two min_two max_three min_three max_four min_four
set_option linter.unusedVariables false
set_option linter.unusedSimpArgs false
mutual
def agateref08_New.l0 : Nat → List (S91) → Int → Option (Int)
 | 0, _, _ => none
 | k + 1, x0, x3 => if x3 < (x0.length : Int) then (if 0 ≤ x3 then ((agateref08_Key.f k ((rd_T91 x0 x3).f0)).bind fun t102 => (if t102 = true then (agateref08_New.l1 k x0 x3 0) else (some 9))) else (none)) else (some 0)
def agateref08_New.l1 : Nat → List (S91) → Int → Int → Option (Int)
 | 0, _, _, _ => none
 | k + 1, x0, x3, x4 => if x4 < x3 then (if 0 ≤ x4 then (if x4 < (x0.length : Int) then (if 0 ≤ x3 then (if x3 < (x0.length : Int) then (if ((rd_T91 x0 x4).f0).toList = ((rd_T91 x0 x3).f0).toList then (some 14) else (agateref08_New.l1 k x0 x3 (wrap64 (x4 + 1)))) else (none)) else (none)) else (none)) else (none)) else (agateref08_New.l0 k x0 (wrap64 (x3 + 1)))
end
def agateref08_New.f (k : Nat) (l0 : List (S91)) : Option (Int) := if (l0.length : Int) > 64 then (some 7) else (agateref08_New.l0 k l0 0)
attribute [local irreducible] Calls
set_option maxHeartbeats 8000000 in
set_option maxRecDepth 100000 in
theorem agateref08_New.calls (k : Nat) (A0 : Option Addr) (c0 : Nat) (l0 : List (S91)) (r : Int) (w : World) (hr0 : Kd.C k91 w A0 l0.length l0) (hc0 : l0.length ≤ c0) (h : agateref08_New.f k l0 = some r) :
  Calls Tryz.prog 16 #[.slice A0 l0.length c0] w fun e w' => e = .returned (.int .i64 r) ∧ Drawn0 w w' := by
 have HR0 := mk0 hr0; have HC0 := mk0 hc0; clear hr0 hc0; have H : (if (l0.length : Int) > 64 then (some 7) else (agateref08_New.l0 k l0 0)) = some r := h; clear h
 by_cases c2 : (l0.length : Int) > 64
 ·
  rw [if_pos c2] at H; have c2b0 := decide_eq_true c2; have c2b1 : decide (64 < l0.length) = true := decide_eq_true (by omega); clear c2; obtain rfl := Option.some.inj H
  go_enter Tryz.func16, Tryz.ntmps16
  go_wp2
  repeat (go_quiet (fail); try go_wp2)
  go_ret
  exact ⟨by first | rfl | (simp; done) | (simp [*]; done), by repeat (first | exact Drawn0.refl _ | apply Drawn0.step)⟩
 ·
  rw [if_neg c2] at H; have c2b0 := decide_eq_false c2; have c2b1 : decide (64 < l0.length) = false := decide_eq_false (by omega); clear c2; have H' := mk0 H; clear H
  go_enter Tryz.func16, Tryz.ntmps16
  go_wp2
  repeat (go_quiet (fail); try go_wp2)
  go_loopg [3] k (fun kq v3 w' => ∃ (x3_1 : Int), v3 = .int .i64 x3_1 ∧ Aside0 (agateref08_New.l0 kq l0 x3_1 = some r) ∧ Aside0 (kq ≤ k) ∧ Drawn0 w w')
  case atStart => exact ⟨(0), cl0, H', ⟨Nat.le_refl _⟩, by repeat (first | exact Drawn0.refl _ | apply Drawn0.step)⟩
  case round =>
   clear H'; try clear c2; try clear c2b0; try clear c2b1
   obtain ⟨x3_1, rfl, HA, HK1, ⟨m1, rfl⟩⟩ := hrel
   cases gk with
   | zero => exact absurd HA.out (by simp [agateref08_New.l0])
   | succ k1 =>
    have H := HA.out; clear HA
    simp only [agateref08_New.l0] at H
    by_cases c3 : x3_1 < (l0.length : Int)
    ·
     rw [if_pos c3] at H; have c3b0 := decide_eq_true c3; clear c3; replace H := ifS H; obtain ⟨c4, H⟩ := H; have c4b0 := decide_eq_true c4; clear c4; replace H := bnd H; obtain ⟨t102, A5, H⟩ := H
     by_cases c6 : t102 = true
     ·
      subst c6; have H1 : (agateref08_New.l1 k1 l0 x3_1 0) = some r := by rw [if_pos rfl] at H; exact H
      clear H; have H := H1; clear H1; have H' := mk0 H; clear H; have p101 : 0 ≤ (x3_1 : Int) := ofd; have q101 : x3_1 < (l0.length : Int) := ofd; obtain ⟨ad101, e101, hx101_0, hx101_1⟩ := at_T91 HR0.out x3_1 p101 q101; cases e101; replace p101 := eq_true p101; replace q101 := eq_true q101
      go_wp2_with (first | (go_at_call 42; (with_reducible refine (agateref08_Key.calls k1 ((rd_T91 l0 x3_1).f0) true _ A5.out).mono ?_); rintro e w' ⟨rfl, ⟨nd, rfl⟩⟩; (try first | exact ⟨rfl, _, World.drewN_drewN _ _ _⟩ | exact ⟨rfl, _, Eq.trans (World.drewN_drewN _ _ _) (congrArg (World.drewN _) (Nat.add_assoc _ _ _))⟩)))
      repeat (go_quiet (first | (go_at_call 42; (with_reducible refine (agateref08_Key.calls k1 ((rd_T91 l0 x3_1).f0) true _ A5.out).mono ?_); rintro e w' ⟨rfl, ⟨nd, rfl⟩⟩; (try first | exact ⟨rfl, _, World.drewN_drewN _ _ _⟩ | exact ⟨rfl, _, Eq.trans (World.drewN_drewN _ _ _) (congrArg (World.drewN _) (Nat.add_assoc _ _ _))⟩))); try go_wp2_with (first | (go_at_call 42; (with_reducible refine (agateref08_Key.calls k1 ((rd_T91 l0 x3_1).f0) true _ A5.out).mono ?_); rintro e w' ⟨rfl, ⟨nd, rfl⟩⟩; (try first | exact ⟨rfl, _, World.drewN_drewN _ _ _⟩ | exact ⟨rfl, _, Eq.trans (World.drewN_drewN _ _ _) (congrArg (World.drewN _) (Nat.add_assoc _ _ _))⟩))))
      go_loopg [4] k1 (fun kq v4 w' => ∃ (x4_2 : Int), v4 = .int .i64 x4_2 ∧ Aside0 (agateref08_New.l1 kq l0 x3_1 x4_2 = some r) ∧ Aside0 (kq ≤ k1) ∧ Drawn0 w w')
      case atStart => exact ⟨(0), cl0, H', ⟨Nat.le_refl _⟩, by repeat (first | exact Drawn0.refl _ | apply Drawn0.step)⟩
      case round =>
       clear H'; try clear c2; try clear c2b0; try clear c2b1; try clear c3; try clear c3b0; try clear c4; try clear c4b0; try clear c6; try clear hx101_0; try clear hx101_1; try clear p101; try clear q101
       obtain ⟨x4_2, rfl, HA, HK2, ⟨m2, rfl⟩⟩ := hrel
       cases gk with
       | zero => exact absurd HA.out (by simp [agateref08_New.l1])
       | succ k2 =>
        have H := HA.out; clear HA
        simp only [agateref08_New.l1] at H
        by_cases c7 : x4_2 < x3_1
        ·
         rw [if_pos c7] at H; have c7b0 := decide_eq_true c7; clear c7; replace H := ifS H; obtain ⟨c8, H⟩ := H; have c8b0 := decide_eq_true c8; clear c8; replace H := ifS H; obtain ⟨c9, H⟩ := H; have c9b0 := decide_eq_true c9; clear c9; replace H := ifS H; obtain ⟨c10, H⟩ := H; have c10b0 := decide_eq_true c10; clear c10; replace H := ifS H; obtain ⟨c11, H⟩ := H; have c11b0 := decide_eq_true c11; clear c11
         by_cases c12 : ((rd_T91 l0 x4_2).f0).toList = ((rd_T91 l0 x3_1).f0).toList
         ·
          rw [if_pos c12] at H; have c12b0 := beq_iff_eq.mpr c12; have c12b1 := bne_eq_false_iff_eq.mpr c12; clear c12; obtain rfl := Option.some.inj H; have p103 : 0 ≤ (x4_2 : Int) := ofd; have q103 : x4_2 < (l0.length : Int) := ofd; obtain ⟨ad103, e103, hx103_0, hx103_1⟩ := at_T91 HR0.out x4_2 p103 q103; obtain rfl : ad101 = ad103 := (by injection e103); replace p103 := eq_true p103; replace q103 := eq_true q103; have p104 : 0 ≤ (x3_1 : Int) := ofd; have q104 : x3_1 < (l0.length : Int) := ofd; obtain ⟨ad104, e104, hx104_0, hx104_1⟩ := at_T91 HR0.out x3_1 p104 q104; obtain rfl : ad101 = ad104 := (by injection e104); replace p104 := eq_true p104; replace q104 := eq_true q104
          go_wp2
          repeat (go_quiet (fail); try go_wp2)
          go_ret
          exact ⟨by first | rfl | (simp; done) | (simp [*]; done), by repeat (first | exact Drawn0.refl _ | apply Drawn0.step)⟩
         ·
          rw [if_neg c12] at H; have c12b0 := beq_eq_false_iff_ne.mpr c12; have c12b1 := bne_iff_ne.mpr c12; have H' := mk0 H; clear H; have p103 : 0 ≤ (x4_2 : Int) := ofd; have q103 : x4_2 < (l0.length : Int) := ofd; obtain ⟨ad103, e103, hx103_0, hx103_1⟩ := at_T91 HR0.out x4_2 p103 q103; obtain rfl : ad101 = ad103 := (by injection e103); replace p103 := eq_true p103; replace q103 := eq_true q103; have p104 : 0 ≤ (x3_1 : Int) := ofd; have q104 : x3_1 < (l0.length : Int) := ofd; obtain ⟨ad104, e104, hx104_0, hx104_1⟩ := at_T91 HR0.out x3_1 p104 q104; obtain rfl : ad101 = ad104 := (by injection e104); replace p104 := eq_true p104; replace q104 := eq_true q104
          go_wp2
          repeat (go_quiet (fail); try go_wp2)
          go_roundg k2
          case measure => have := HK1.out; have := HK2.out; omega
          case rel => exact ⟨(wrap64 (x4_2 + 1)), cl0, H', ⟨by have := HK1.out; have := HK2.out; omega⟩, by repeat (first | exact Drawn0.refl _ | apply Drawn0.step)⟩
        ·
         rw [if_neg c7] at H; have c7b0 := decide_eq_false c7; clear c7; have H' := mk0 H; clear H
         go_wp2
         repeat (go_quiet (fail); try go_wp2)
         go_roundg k2
         case measure => have := HK1.out; have := HK2.out; omega
         case rel => exact ⟨(wrap64 (x3_1 + 1)), cl0, H', ⟨by have := HK1.out; have := HK2.out; omega⟩, by repeat (first | exact Drawn0.refl _ | apply Drawn0.step)⟩
     ·
      replace c6 := Bool.eq_false_iff.mpr c6; subst c6; have H1 : (some 9) = some r := by rw [if_neg (show ¬ (false = true) by decide)] at H; exact H
      clear H; have H := H1; clear H1; obtain rfl := Option.some.inj H; have p101 : 0 ≤ (x3_1 : Int) := ofd; have q101 : x3_1 < (l0.length : Int) := ofd; obtain ⟨ad101, e101, hx101_0, hx101_1⟩ := at_T91 HR0.out x3_1 p101 q101; cases e101; replace p101 := eq_true p101; replace q101 := eq_true q101
      go_wp2_with (first | (go_at_call 42; (with_reducible refine (agateref08_Key.calls k1 ((rd_T91 l0 x3_1).f0) false _ A5.out).mono ?_); rintro e w' ⟨rfl, ⟨nd, rfl⟩⟩; (try first | exact ⟨rfl, _, World.drewN_drewN _ _ _⟩ | exact ⟨rfl, _, Eq.trans (World.drewN_drewN _ _ _) (congrArg (World.drewN _) (Nat.add_assoc _ _ _))⟩)))
      repeat (go_quiet (first | (go_at_call 42; (with_reducible refine (agateref08_Key.calls k1 ((rd_T91 l0 x3_1).f0) false _ A5.out).mono ?_); rintro e w' ⟨rfl, ⟨nd, rfl⟩⟩; (try first | exact ⟨rfl, _, World.drewN_drewN _ _ _⟩ | exact ⟨rfl, _, Eq.trans (World.drewN_drewN _ _ _) (congrArg (World.drewN _) (Nat.add_assoc _ _ _))⟩))); try go_wp2_with (first | (go_at_call 42; (with_reducible refine (agateref08_Key.calls k1 ((rd_T91 l0 x3_1).f0) false _ A5.out).mono ?_); rintro e w' ⟨rfl, ⟨nd, rfl⟩⟩; (try first | exact ⟨rfl, _, World.drewN_drewN _ _ _⟩ | exact ⟨rfl, _, Eq.trans (World.drewN_drewN _ _ _) (congrArg (World.drewN _) (Nat.add_assoc _ _ _))⟩))))
      go_ret
      exact ⟨by first | rfl | (simp; done) | (simp [*]; done), by repeat (first | exact Drawn0.refl _ | apply Drawn0.step)⟩
    ·
     rw [if_neg c3] at H; have c3b0 := decide_eq_false c3; clear c3; obtain rfl := Option.some.inj H
     go_wp2
     repeat (go_quiet (fail); try go_wp2)
     go_ret
     exact ⟨by first | rfl | (simp; done) | (simp [*]; done), by repeat (first | exact Drawn0.refl _ | apply Drawn0.step)⟩
end Go.Proofs.YtgmggompdidcoaaGreatDoor.X
namespace Go.Proofs.YtgmggompdidcoaaGreatDoor.X
open Go.RowKit Go.Proofs.YtgmggompdidcoaaGreatDoorW.PrintWords Go.Proofs.YtgmggompdidcoaaGreatDoorW.PrintLast Go.Proofs.YtgmggompdidcoaaGreatDoorW.PrintMore
attribute [local go_sem] max2_int min2_int max_two min_two max_three min_three max_four min_four
set_option linter.unusedVariables false
set_option linter.unusedSimpArgs false
def sumF (l : List S50) : Nat := (l.map (fun f => f.f0.size + f.f1.size)).sum
theorem sumF_snoc (l : List S50) (i : Nat) (h : i < l.length) : sumF (l.take (i + 1)) = sumF (l.take i) + (l[i].f0.size + l[i].f1.size) := by
  unfold sumF
  rw [List.take_succ_eq_append_getElem h, List.map_append, List.sum_append]
  rfl
theorem sumF_mem {l : List S50} {f : S50} (h : f ∈ l) : f.f0.size + f.f1.size ≤ sumF l := by
  unfold sumF
  induction l with
  | nil => cases h
  | cons a t ih =>
    rw [List.map_cons, List.sum_cons]
    rcases List.mem_cons.1 h with rfl | h
    · omega
    · have := ih h; omega
def prs (l : List S50) : List (ByteArray × ByteArray) := l.map (fun f => (f.f0, f.f1))
def newR : List (ByteArray × ByteArray) → List S50 → Int
  | _, [] => 0
  | met, f :: t => if keyB f.f0 = true then (if (getL met f.f0).isSome = true then 14 else newR (met ++ [(f.f0, f.f1)]) t) else 9
def newC (l : List S50) : Int := if l.length > 64 then 7 else newR [] l
theorem putL_none {l : List (ByteArray × ByteArray)} {k : ByteArray} (v : ByteArray) (h : getL l k = none) : putL l k v = l ++ [(k, v)] := by
  rcases fl_put k v l 0 0 with ⟨_, _, _, h3⟩ | ⟨q, d, h0, _⟩
  · exact h3
  · rw [h] at h0; cases h0
def NewPost (w : World) (l : List S50) (e : Ending) (w' : World) : Prop := ∃ m, e = .returned (.tuple #[.agg #[.map m], .int .i64 (newC l)]) ∧ StrMap w' m (if newC l = 0 then prs l else []) ∧ Below w.heap.size w w'
theorem newPost_no {w w' : World} {l : List S50} {k : Int} (h : newC l = k) (hk : k ≠ 0) (hb : Below w.heap.size w w') {e : Ending} (he : e = .returned (.tuple #[.agg #[.map none], .int .i64 k])) : NewPost w l e w' :=
  ⟨none, by rw [he, h], .inl ⟨rfl, by rw [h, if_neg hk]⟩, hb⟩
theorem newPost_yes {w w' : World} {l : List S50} {m : Nat} (h : newC l = 0) (hb : Below w.heap.size w w') (hm : w'.heap[m]? = some (.map (flE (prs l)) l.length)) {e : Ending} (he : e = .returned (.tuple #[.agg #[.map (some m)], .int .i64 0])) : NewPost w l e w' :=
  ⟨some m, by rw [he, h], .inr ⟨m, rfl, by rw [h, if_pos rfl]; unfold prs at hm ⊢; rw [List.length_map]; exact hm⟩, hb⟩
theorem prs_snoc (l : List S50) (i : Nat) (h : i < l.length) : prs (l.take (i + 1)) = prs (l.take i) ++ [(l[i].f0, l[i].f1)] := by
  unfold prs
  rw [List.take_succ_eq_append_getElem h, List.map_append]; rfl
theorem objS {W : World} {g : Nat} {o : Obj} {p : Addr} {v : Value} (h : W.heap[g]? = some o) (ne : Aside0 (g ≠ p.block)) : (W.setCell p v).heap[g]? = some o := (Below.heap_setCell _ _ _ _ ne.out).trans h
set_option maxHeartbeats 8000000 in
set_option maxRecDepth 100000 in
theorem New_any (A : Option Addr) (c : Nat) (l : List S50) (w : World) (hr : Kd.C k50 w A l.length l) (hc : l.length ≤ c) (hk : ∀ f ∈ l, f.f0.size ≤ 140737488351232) :
    Calls Tryz.prog 14 #[.slice A l.length c] w (NewPost w l) := by
  have hu := Tryz.underlying25
  have hu2 := Tryz.underlying50
  have HR := Aside0.mk hr
  have HL := Aside0.mk hr.2.1
  have HK := Aside0.mk hk
  have HB := Aside0.mk (Below.refl w.heap.size w)
  clear hr hc hk
  go_enter Tryz.func14, Tryz.ntmps14
  by_cases h64 : l.length > 64
  · have b64 : decide (64 < (l.length : Int)) = true := decide_eq_true (by omega)
    have HX := Aside0.mk (show newC l = 7 from if_pos h64)
    clear h64
    go_wp2_with (first | ((with_reducible refine gate_dst (N := 2) rfl ?_); refine boxE (N := 2) (cs := #[.map none]) (t := 25) ?_; intro gb2 hg w2 hbox hb; have BK2 := mk0 hbox; have GW2 := gwS HB hg; replace HB := hbS HB hb; clear hb hbox hg; have hc2 := cz1 BK2; have hf2 := fz BK2 0))
    refine bodyPost_ret (results_ct rfl _ _ gb2 25 #[.map none] (0, 0) _ rfl (bkW BK2) Tryz.underlying25 rfl (by kernel_rfl)) rfl ?_
    exact newPost_no HX.out (by decide) (below_set HB.out GW2.out) rfl
  have b64 : decide (64 < (l.length : Int)) = false := decide_eq_false (by omega)
  have HX := Aside0.mk (show newC l = newR [] l from if_neg h64)
  have H64 := Aside0.mk h64
  clear h64
  go_wp2_with (first | ((with_reducible refine gate_dst (N := 2) rfl ?_); refine boxE (N := 2) (cs := #[.map none]) (t := 25) ?_; intro gb2 hg w2 hbox hb; have BK2 := mk0 hbox; have GW2 := gwS HB hg; replace HB := hbS HB hb; clear hb hbox hg; have hc2 := cz1 BK2; have hf2 := fz BK2 0) | ((with_reducible refine gate_dst (N := 13) rfl ?_); refine mapE (N := 13) ?_; intro gm hg w3 hbox hb; have BKm := mk0 hbox; have GWm := gwS HB hg; have NB2m := neS BK2 hg; replace HB := hbS HB hb; replace BK2 := bkS BK2 hb; clear hb hbox hg) | ((with_reducible refine gate_dst (N := 4) rfl ?_); refine boxE (N := 4) (cs := #[.map none]) (t := 25) ?_; intro gb4 hg w4 hbox hb; have BK4 := mk0 hbox; have GW4 := gwS HB hg; have NB24 := neS BK2 hg; have NB42 := neT BK2 hg; have NBm4 := neS BKm hg; replace HB := hbS HB hb; replace BK2 := bkS BK2 hb; replace BKm := bkS BKm hb; clear hb hbox hg hc2 hf2; have hc4 := cz1 BK4; have hf4 := fz BK4 0))
  go_loopg [17] l.length (fun kq v17 w' => ∃ i : Nat, v17 = .int .i64 i ∧ Aside0 (i + kq = l.length) ∧ Aside0 (newR [] l = newR (prs (l.take i)) (l.drop i)) ∧ Aside0 (w'.heap[gm]? = some (.map (flE (prs (l.take i))) i)) ∧ Aside0 (w'.heap[gb4]? = some (.cells #[.map (some gm)] 25 (0, 0))) ∧ Aside0 (w'.heap[gb2]? = some (.cells #[.map none] 25 (0, 0))) ∧ Aside0 (Below w.heap.size w w'))
  case atStart => exact ⟨0, rfl, ⟨by omega⟩, ⟨rfl⟩, ⟨(Below.heap_setCell _ ⟨gb4, 0, none⟩ _ _ NBm4.out).trans BKm.out⟩, ⟨bkW BK4⟩, ⟨bkW BK2⟩, ⟨below_set HB.out GW4.out⟩⟩
  case round =>
  clear BK2 BKm BK4 HB hc4 hf4
  obtain ⟨i, rfl, HN, HE, BKm, BK4, BK2, HB⟩ := hrel
  by_cases hlt : i < l.length
  · have hlt' : decide ((i : Int) < (l.length : Int)) = true := decide_eq_true (by omega)
    obtain ⟨kk, rfl⟩ : ∃ m, gk = m + 1 := ⟨gk - 1, by have := HN.out; omega⟩
    have p101 : 0 ≤ (i : Int) := Int.natCast_nonneg i
    have q101 : (i : Int) < (l.length : Int) := by omega
    obtain ⟨ad101, e101, hx101_0, hx101_1⟩ := at_T50 (Kd.C_below HR.out HB.out) (i : Int) p101 q101
    cases e101
    rw [Int.toNat_natCast] at hx101_0 hx101_1
    have hrd : rd_T50 l (i : Int) = l[i] := by simp [rd_T50, hlt]
    rw [hrd] at hx101_0 hx101_1
    have HS := Aside0.mk (prs_snoc l i hlt)
    have HKi := Aside0.mk (HK.out l[i] (List.getElem_mem hlt))
    have HD := Aside0.mk (show l.drop i = l[i] :: l.drop (i + 1) from List.drop_eq_getElem_cons hlt)
    clear hrd
    generalize l[i] = x at hx101_0 hx101_1 HS HKi HD
    obtain ⟨x0, x1⟩ := x
    have HE2 := Aside0.mk (HE.out.trans (by rw [HD.out, newR]))
    clear HE HD
    have Hw : Aside0 (wrap64 ((i : Int) + 1) = (i : Int) + 1) := ⟨by have := HL.out; exact wrap64_id (by omega) (by omega)⟩
    have HI := Aside0.mk hlt
    clear hlt
    replace p101 := eq_true p101
    replace q101 := eq_true q101
    obtain ⟨kb, hkb⟩ : ∃ kb, keyB x0 = kb := ⟨_, rfl⟩
    have HC := Aside0.mk (Key_any x0 HKi.out)
    rw [hkb] at HC
    have HKB := Aside0.mk hkb
    clear hkb
    have FF : Aside0 (HX.out.trans HE2.out = HX.out.trans HE2.out) := ⟨rfl⟩
    clear FF
    go_wp2_with (first | ((with_reducible refine gate_dst (N := 6) rfl ?_); refine boxE (N := 6) (cs := #[.string (⟨#[]⟩ : ByteArray), .string (⟨#[]⟩ : ByteArray)]) (t := 50) ?_; intro gb6 hg w6 hbox hb; have BK6 := mk0 hbox; have GW6 := gwS HB hg; have NB26 := neS BK2 hg; have NB46 := neS BK4 hg; have NBm6 := neS BKm hg; replace HB := hbS HB hb; replace BK2 := bkS BK2 hb; replace BK4 := bkS BK4 hb; replace BKm := bkS BKm hb; clear hb hbox hg; obtain ⟨hc60, hc61⟩ := cz2 BK6; have hf60 := fz BK6 0; have hf61 := fz BK6 1))
    obtain ⟨w7, hw7⟩ : ∃ w7, w7 = (w6.setCell ⟨gb6, 0, none⟩ (.string x0)).setCell ⟨gb6, 1, none⟩ (.string x1) := ⟨_, rfl⟩
    rw [← hw7]
    replace HB := mk0 (show Below w.heap.size w w7 from by rw [hw7]; exact below_set (below_set HB.out GW6.out) GW6.out)
    have BK6' := mk0 (show w7.heap[gb6]? = some (.cells #[.string x0, .string x1] 50 (0, 0)) from by rw [hw7]; exact bkW BK6)
    replace BK2 := mk0 (show w7.heap[gb2]? = some (.cells #[.map none] 25 (0, 0)) from by rw [hw7]; exact bkW BK2)
    replace BK4 := mk0 (show w7.heap[gb4]? = some (.cells #[.map (some gm)] 25 (0, 0)) from by rw [hw7]; exact bkW BK4)
    replace BKm := mk0 (show w7.heap[gm]? = some (.map (flE (prs (l.take i))) i) from by rw [hw7]; exact objS (objS BKm.out NBm6) NBm6)
    clear BK6 hc60 hc61 hf60 hf61 hw7
    refine (HC.out _).mono ?_
    rintro e w8 ⟨rfl, hb⟩
    replace BK6' := bkS BK6' hb; replace BK2 := bkS BK2 hb; replace BK4 := bkS BK4 hb; replace BKm := bkS BKm hb; replace HB := hbS HB hb
    clear hb
    have hc2 := cz1 BK2; have hf2 := fz BK2 0; have hc4 := cz1 BK4
    obtain ⟨hc60, hc61⟩ := cz2 BK6'
    cases kb with
    | false =>
      have HX9 := Aside0.mk (HX.out.trans (HE2.out.trans (if_neg (by rw [HKB.out]; simp))))
      go_wp2
      refine bodyPost_ret (results_ct rfl _ _ gb2 25 #[.map none] (0, 0) _ rfl (bkW BK2) Tryz.underlying25 rfl (by kernel_rfl)) rfl ?_
      exact newPost_no HX9.out (by decide) (below_set HB.out GW2.out) rfl
    | true =>
      have HE3 := Aside0.mk (HE2.out.trans (if_pos HKB.out))
      clear HE2
      have hlk := lookup_fl (W := w8) (m := some gm) (l := prs (l.take i)) (.inr ⟨gm, rfl, by have h := BKm.out; rw [show (prs (l.take i)).length = i from by unfold prs; rw [List.length_map, List.length_take]; have := HI.out; omega]; exact h⟩) x0
      cases hg : getL (prs (l.take i)) x0 with
      | some d =>
        rw [hg] at hlk
        have HX9 := Aside0.mk (HX.out.trans (HE3.out.trans (if_pos (by rw [hg]; rfl))))
        clear hg
        go_wp2
        refine bodyPost_ret (results_ct rfl _ _ gb2 25 #[.map none] (0, 0) _ rfl (bkW BK2) Tryz.underlying25 rfl (by kernel_rfl)) rfl ?_
        exact newPost_no HX9.out (by decide) (below_set HB.out GW2.out) rfl
      | none =>
        rw [hg] at hlk
        have HX9 := Aside0.mk (HE3.out.trans (if_neg (by rw [hg]; simp)))
        have HP := Aside0.mk (putL_none x1 hg)
        have hlen : (prs (l.take i)).length = i := by unfold prs; rw [List.length_map, List.length_take]; have := HI.out; omega
        obtain ⟨w9, hrun, hm9, hb9, hz9, hfar⟩ := put_fl (w := w) (W := w8) (prs (l.take i)) x0 x1 (by rw [hlen]; exact BKm.out) GWm.out HB.out
        rw [HP.out] at hm9
        have BKm9 := Aside0.mk (show w9.heap[gm]? = some (.map (flE (prs (l.take (i + 1)))) (i + 1)) from by rw [HS.out, hm9, List.length_append, hlen]; rfl)
        have HX10 := Aside0.mk (show newR [] l = newR (prs (l.take (i + 1))) (l.drop (i + 1)) from by rw [HS.out]; exact HX9.out)
        have BK49 := Aside0.mk ((hfar gb4 (Ne.symm NBm4.out)).trans BK4.out)
        have BK29 := Aside0.mk ((hfar gb2 NB2m.out).trans BK2.out)
        have HB9 := Aside0.mk hb9
        clear hg HE3 hlen hm9 hb9 hz9 hfar
        go_wp2
        go_roundg kk
        case measure => omega
        case rel => exact ⟨i + 1, by rw [Hw.out]; rfl, ⟨by have := HN.out; omega⟩, HX10, BKm9, BK49, BK29, HB9⟩
  · have hge : decide ((i : Int) < (l.length : Int)) = false := decide_eq_false (by omega)
    have hi : i = l.length := by
      have := HN.out
      omega
    subst hi
    have HX0 := Aside0.mk (show newC l = 0 from by rw [HX.out, HE.out, List.drop_length]; rfl)
    have BKm' := Aside0.mk (show wr.heap[gm]? = some (.map (flE (prs l)) l.length) from by rw [← List.take_length (l := l)]; have h := BKm.out; rw [List.take_length] at h ⊢; exact h)
    have hc2 := cz1 BK2; have hf2 := fz BK2 0; have hc4 := cz1 BK4
    clear hlt
    go_wp2
    refine bodyPost_ret (results_ct rfl _ _ gb2 25 #[.map (some gm)] (0, 0) _ rfl (bkW BK2) Tryz.underlying25 rfl (by kernel_rfl)) rfl ?_
    exact newPost_yes HX0.out (below_set HB.out GW2.out) (objS BKm'.out ⟨Ne.symm NB2m.out⟩) rfl
end Go.Proofs.YtgmggompdidcoaaGreatDoor.X
