import Derived.Test.YtgmggompdidcoaaDoorMStoreReads2
namespace Go.Proofs.YtgmggompdidcoaaDoor.X
open Go.RowKit Go.Proofs.YtgmggompdidcoaaDoorW.PrintWords Go.Proofs.YtgmggompdidcoaaDoorW.PrintLast Go.Proofs.YtgmggompdidcoaaDoorW.PrintMore
attribute [local go_sem] max2_int min2_int max_two min_two max_three min_three max_four min_four
set_option linter.unusedVariables false
set_option linter.unusedSimpArgs false
def store_part.l0 : Nat → ByteArray → Int → Int → Option (Bool)
 | 0, _, _, _ => none
 | k + 1, x0, x6, x7 => if x7 < x6 then (if 0 ≤ x7 then (if x7 < (x0.size : Int) then (if (bt x0 x7) < 97 then (if (bt x0 x7) < 65 then (if (bt x0 x7) < 48 then (if (bt x0 x7) = 46 then (store_part.l0 k x0 x6 (wrap64 (x7 + 1))) else (if (bt x0 x7) = 95 then (store_part.l0 k x0 x6 (wrap64 (x7 + 1))) else (if (bt x0 x7) = 45 then (store_part.l0 k x0 x6 (wrap64 (x7 + 1))) else (some false)))) else (if (bt x0 x7) > 57 then (if (bt x0 x7) = 46 then (store_part.l0 k x0 x6 (wrap64 (x7 + 1))) else (if (bt x0 x7) = 95 then (store_part.l0 k x0 x6 (wrap64 (x7 + 1))) else (if (bt x0 x7) = 45 then (store_part.l0 k x0 x6 (wrap64 (x7 + 1))) else (some false)))) else (store_part.l0 k x0 x6 (wrap64 (x7 + 1))))) else (if (bt x0 x7) > 90 then (if (bt x0 x7) < 48 then (if (bt x0 x7) = 46 then (store_part.l0 k x0 x6 (wrap64 (x7 + 1))) else (if (bt x0 x7) = 95 then (store_part.l0 k x0 x6 (wrap64 (x7 + 1))) else (if (bt x0 x7) = 45 then (store_part.l0 k x0 x6 (wrap64 (x7 + 1))) else (some false)))) else (if (bt x0 x7) > 57 then (if (bt x0 x7) = 46 then (store_part.l0 k x0 x6 (wrap64 (x7 + 1))) else (if (bt x0 x7) = 95 then (store_part.l0 k x0 x6 (wrap64 (x7 + 1))) else (if (bt x0 x7) = 45 then (store_part.l0 k x0 x6 (wrap64 (x7 + 1))) else (some false)))) else (store_part.l0 k x0 x6 (wrap64 (x7 + 1))))) else (store_part.l0 k x0 x6 (wrap64 (x7 + 1))))) else (if (bt x0 x7) > 122 then (if (bt x0 x7) < 65 then (if (bt x0 x7) < 48 then (if (bt x0 x7) = 46 then (store_part.l0 k x0 x6 (wrap64 (x7 + 1))) else (if (bt x0 x7) = 95 then (store_part.l0 k x0 x6 (wrap64 (x7 + 1))) else (if (bt x0 x7) = 45 then (store_part.l0 k x0 x6 (wrap64 (x7 + 1))) else (some false)))) else (if (bt x0 x7) > 57 then (if (bt x0 x7) = 46 then (store_part.l0 k x0 x6 (wrap64 (x7 + 1))) else (if (bt x0 x7) = 95 then (store_part.l0 k x0 x6 (wrap64 (x7 + 1))) else (if (bt x0 x7) = 45 then (store_part.l0 k x0 x6 (wrap64 (x7 + 1))) else (some false)))) else (store_part.l0 k x0 x6 (wrap64 (x7 + 1))))) else (if (bt x0 x7) > 90 then (if (bt x0 x7) < 48 then (if (bt x0 x7) = 46 then (store_part.l0 k x0 x6 (wrap64 (x7 + 1))) else (if (bt x0 x7) = 95 then (store_part.l0 k x0 x6 (wrap64 (x7 + 1))) else (if (bt x0 x7) = 45 then (store_part.l0 k x0 x6 (wrap64 (x7 + 1))) else (some false)))) else (if (bt x0 x7) > 57 then (if (bt x0 x7) = 46 then (store_part.l0 k x0 x6 (wrap64 (x7 + 1))) else (if (bt x0 x7) = 95 then (store_part.l0 k x0 x6 (wrap64 (x7 + 1))) else (if (bt x0 x7) = 45 then (store_part.l0 k x0 x6 (wrap64 (x7 + 1))) else (some false)))) else (store_part.l0 k x0 x6 (wrap64 (x7 + 1))))) else (store_part.l0 k x0 x6 (wrap64 (x7 + 1))))) else (store_part.l0 k x0 x6 (wrap64 (x7 + 1))))) else (none)) else (none)) else (if x0.toList = ([] : List UInt8) then (some false) else (if x0.toList = ([46] : List UInt8) then (some false) else (some (x0.toList != ([46, 46] : List UInt8)))))
def store_part.f (k : Nat) (a0 : ByteArray) : Option (Bool) := store_part.l0 k a0 (a0.size : Int) 0
set_option maxHeartbeats 8000000 in
set_option maxRecDepth 100000 in
theorem store_part.calls (k : Nat) (a0 : ByteArray) (r : Bool) (w : World) (h : store_part.f k a0 = some r) :
  Calls Tryd.prog 16 #[.string a0] w fun e w' => e = .returned (.bool r) ∧ Drawn0 w w' := by
 have H : (store_part.l0 k a0 (a0.size : Int) 0) = some r := h; clear h; have H' := mk0 H; clear H
 go_enter Tryd.func16, Tryd.ntmps16
 go_wp2
 go_loopg [7] k (fun kq v7 w' => ∃ (x7_1 : Int), v7 = .int .i64 x7_1 ∧ Aside0 (store_part.l0 kq a0 (a0.size : Int) x7_1 = some r) ∧ Aside0 (kq ≤ k) ∧ Drawn0 w w')
 case atStart => exact ⟨(0), cl0, H', ⟨Nat.le_refl _⟩, by repeat (first | exact Drawn0.refl _ | apply Drawn0.step)⟩
 case round =>
  clear H'; obtain ⟨x7_1, rfl, HA, HK1, ⟨m1, rfl⟩⟩ := hrel
  cases gk with
  | zero => exact absurd HA.out (by simp [store_part.l0])
  | succ k1 =>
   have H := HA.out; clear HA
   simp only [store_part.l0] at H
   by_cases c2 : x7_1 < (a0.size : Int)
   ·
    rw [if_pos c2] at H; have c2b0 := decide_eq_true c2; clear c2; replace H := ifS H; obtain ⟨c3, H⟩ := H; have c3b0 := decide_eq_true c3; clear c3
    by_cases c4 : x7_1 < (a0.size : Int)
    ·
     rw [if_pos c4] at H; have c4b0 := decide_eq_true c4; clear c4
     by_cases c6 : (bt a0 x7_1) < 97
     ·
      rw [if_pos c6] at H; have c6b0 := decide_eq_true c6; clear c6
      by_cases c7 : (bt a0 x7_1) < 65
      ·
       rw [if_pos c7] at H; have c7b0 := decide_eq_true c7; clear c7
       by_cases c8 : (bt a0 x7_1) < 48
       ·
        rw [if_pos c8] at H; have c8b0 := decide_eq_true c8; clear c8
        by_cases c9 : (bt a0 x7_1) = 46
        ·
         rw [if_pos c9] at H; have c9b0 := beq_iff_eq.mpr c9; have c9b1 := bne_eq_false_iff_eq.mpr c9; clear c9; have H' := mk0 H; clear H; have p5 : 0 ≤ (x7_1 : Int) := ofd; have q5 : x7_1 < (a0.size : Int) := ofd; have hx5 := bt_at a0 x7_1; replace p5 := eq_true p5; replace q5 := eq_true q5
         go_wp2
         go_roundg k1
         case measure => have := HK1.out; omega
         case rel => exact ⟨(wrap64 (x7_1 + 1)), cl0, H', cl2 HK1, by repeat (first | exact Drawn0.refl _ | apply Drawn0.step)⟩
        ·
         rw [if_neg c9] at H; have c9b0 := beq_eq_false_iff_ne.mpr c9; have c9b1 := bne_iff_ne.mpr c9
         by_cases c10 : (bt a0 x7_1) = 95
         ·
          rw [if_pos c10] at H; have c10b0 := beq_iff_eq.mpr c10; have c10b1 := bne_eq_false_iff_eq.mpr c10; clear c10; have H' := mk0 H; clear H; have p5 : 0 ≤ (x7_1 : Int) := ofd; have q5 : x7_1 < (a0.size : Int) := ofd; have hx5 := bt_at a0 x7_1; replace p5 := eq_true p5; replace q5 := eq_true q5
          go_wp2
          go_roundg k1
          case measure => have := HK1.out; omega
          case rel => exact ⟨(wrap64 (x7_1 + 1)), cl0, H', cl2 HK1, by repeat (first | exact Drawn0.refl _ | apply Drawn0.step)⟩
         ·
          rw [if_neg c10] at H; have c10b0 := beq_eq_false_iff_ne.mpr c10; have c10b1 := bne_iff_ne.mpr c10
          by_cases c11 : (bt a0 x7_1) = 45
          ·
           rw [if_pos c11] at H; have c11b0 := beq_iff_eq.mpr c11; have c11b1 := bne_eq_false_iff_eq.mpr c11; clear c11; have H' := mk0 H; clear H; have p5 : 0 ≤ (x7_1 : Int) := ofd; have q5 : x7_1 < (a0.size : Int) := ofd; have hx5 := bt_at a0 x7_1; replace p5 := eq_true p5; replace q5 := eq_true q5
           go_wp2
           go_roundg k1
           case measure => have := HK1.out; omega
           case rel => exact ⟨(wrap64 (x7_1 + 1)), cl0, H', cl2 HK1, by repeat (first | exact Drawn0.refl _ | apply Drawn0.step)⟩
          ·
           rw [if_neg c11] at H; have c11b0 := beq_eq_false_iff_ne.mpr c11; have c11b1 := bne_iff_ne.mpr c11; obtain rfl := Option.some.inj H; have p5 : 0 ≤ (x7_1 : Int) := ofd; have q5 : x7_1 < (a0.size : Int) := ofd; have hx5 := bt_at a0 x7_1; replace p5 := eq_true p5; replace q5 := eq_true q5
           go_wp2
           go_ret
           exact ⟨by first | rfl | (simp; done) | (simp [*]; done), by repeat (first | exact Drawn0.refl _ | apply Drawn0.step)⟩
       ·
        rw [if_neg c8] at H; have c8b0 := decide_eq_false c8; clear c8
        by_cases c12 : (bt a0 x7_1) > 57
        ·
         rw [if_pos c12] at H; have c12b0 := decide_eq_true c12; clear c12
         by_cases c13 : (bt a0 x7_1) = 46
         ·
          rw [if_pos c13] at H; have c13b0 := beq_iff_eq.mpr c13; have c13b1 := bne_eq_false_iff_eq.mpr c13; clear c13; have H' := mk0 H; clear H; have p5 : 0 ≤ (x7_1 : Int) := ofd; have q5 : x7_1 < (a0.size : Int) := ofd; have hx5 := bt_at a0 x7_1; replace p5 := eq_true p5; replace q5 := eq_true q5
          go_wp2
          go_roundg k1
          case measure => have := HK1.out; omega
          case rel => exact ⟨(wrap64 (x7_1 + 1)), cl0, H', cl2 HK1, by repeat (first | exact Drawn0.refl _ | apply Drawn0.step)⟩
         ·
          rw [if_neg c13] at H; have c13b0 := beq_eq_false_iff_ne.mpr c13; have c13b1 := bne_iff_ne.mpr c13
          by_cases c14 : (bt a0 x7_1) = 95
          ·
           rw [if_pos c14] at H; have c14b0 := beq_iff_eq.mpr c14; have c14b1 := bne_eq_false_iff_eq.mpr c14; clear c14; have H' := mk0 H; clear H; have p5 : 0 ≤ (x7_1 : Int) := ofd; have q5 : x7_1 < (a0.size : Int) := ofd; have hx5 := bt_at a0 x7_1; replace p5 := eq_true p5; replace q5 := eq_true q5
           go_wp2
           go_roundg k1
           case measure => have := HK1.out; omega
           case rel => exact ⟨(wrap64 (x7_1 + 1)), cl0, H', cl2 HK1, by repeat (first | exact Drawn0.refl _ | apply Drawn0.step)⟩
          ·
           rw [if_neg c14] at H; have c14b0 := beq_eq_false_iff_ne.mpr c14; have c14b1 := bne_iff_ne.mpr c14
           by_cases c15 : (bt a0 x7_1) = 45
           ·
            rw [if_pos c15] at H; have c15b0 := beq_iff_eq.mpr c15; have c15b1 := bne_eq_false_iff_eq.mpr c15; clear c15; have H' := mk0 H; clear H; have p5 : 0 ≤ (x7_1 : Int) := ofd; have q5 : x7_1 < (a0.size : Int) := ofd; have hx5 := bt_at a0 x7_1; replace p5 := eq_true p5; replace q5 := eq_true q5
            go_wp2
            go_roundg k1
            case measure => have := HK1.out; omega
            case rel => exact ⟨(wrap64 (x7_1 + 1)), cl0, H', cl2 HK1, by repeat (first | exact Drawn0.refl _ | apply Drawn0.step)⟩
           ·
            rw [if_neg c15] at H; have c15b0 := beq_eq_false_iff_ne.mpr c15; have c15b1 := bne_iff_ne.mpr c15; obtain rfl := Option.some.inj H; have p5 : 0 ≤ (x7_1 : Int) := ofd; have q5 : x7_1 < (a0.size : Int) := ofd; have hx5 := bt_at a0 x7_1; replace p5 := eq_true p5; replace q5 := eq_true q5
            go_wp2
            go_ret
            exact ⟨by first | rfl | (simp; done) | (simp [*]; done), by repeat (first | exact Drawn0.refl _ | apply Drawn0.step)⟩
        ·
         rw [if_neg c12] at H; have c12b0 := decide_eq_false c12; clear c12; have H' := mk0 H; clear H; have p5 : 0 ≤ (x7_1 : Int) := ofd; have q5 : x7_1 < (a0.size : Int) := ofd; have hx5 := bt_at a0 x7_1; replace p5 := eq_true p5; replace q5 := eq_true q5
         go_wp2
         go_roundg k1
         case measure => have := HK1.out; omega
         case rel => exact ⟨(wrap64 (x7_1 + 1)), cl0, H', cl2 HK1, by repeat (first | exact Drawn0.refl _ | apply Drawn0.step)⟩
      ·
       rw [if_neg c7] at H; have c7b0 := decide_eq_false c7; clear c7
       by_cases c16 : (bt a0 x7_1) > 90
       ·
        rw [if_pos c16] at H; have c16b0 := decide_eq_true c16; clear c16
        by_cases c17 : (bt a0 x7_1) < 48
        ·
         rw [if_pos c17] at H; have c17b0 := decide_eq_true c17; clear c17
         by_cases c18 : (bt a0 x7_1) = 46
         ·
          rw [if_pos c18] at H; have c18b0 := beq_iff_eq.mpr c18; have c18b1 := bne_eq_false_iff_eq.mpr c18; clear c18; have H' := mk0 H; clear H; have p5 : 0 ≤ (x7_1 : Int) := ofd; have q5 : x7_1 < (a0.size : Int) := ofd; have hx5 := bt_at a0 x7_1; replace p5 := eq_true p5; replace q5 := eq_true q5
          go_wp2
          go_roundg k1
          case measure => have := HK1.out; omega
          case rel => exact ⟨(wrap64 (x7_1 + 1)), cl0, H', cl2 HK1, by repeat (first | exact Drawn0.refl _ | apply Drawn0.step)⟩
         ·
          rw [if_neg c18] at H; have c18b0 := beq_eq_false_iff_ne.mpr c18; have c18b1 := bne_iff_ne.mpr c18
          by_cases c19 : (bt a0 x7_1) = 95
          ·
           rw [if_pos c19] at H; have c19b0 := beq_iff_eq.mpr c19; have c19b1 := bne_eq_false_iff_eq.mpr c19; clear c19; have H' := mk0 H; clear H; have p5 : 0 ≤ (x7_1 : Int) := ofd; have q5 : x7_1 < (a0.size : Int) := ofd; have hx5 := bt_at a0 x7_1; replace p5 := eq_true p5; replace q5 := eq_true q5
           go_wp2
           go_roundg k1
           case measure => have := HK1.out; omega
           case rel => exact ⟨(wrap64 (x7_1 + 1)), cl0, H', cl2 HK1, by repeat (first | exact Drawn0.refl _ | apply Drawn0.step)⟩
          ·
           rw [if_neg c19] at H; have c19b0 := beq_eq_false_iff_ne.mpr c19; have c19b1 := bne_iff_ne.mpr c19
           by_cases c20 : (bt a0 x7_1) = 45
           ·
            rw [if_pos c20] at H; have c20b0 := beq_iff_eq.mpr c20; have c20b1 := bne_eq_false_iff_eq.mpr c20; clear c20; have H' := mk0 H; clear H; have p5 : 0 ≤ (x7_1 : Int) := ofd; have q5 : x7_1 < (a0.size : Int) := ofd; have hx5 := bt_at a0 x7_1; replace p5 := eq_true p5; replace q5 := eq_true q5
            go_wp2
            go_roundg k1
            case measure => have := HK1.out; omega
            case rel => exact ⟨(wrap64 (x7_1 + 1)), cl0, H', cl2 HK1, by repeat (first | exact Drawn0.refl _ | apply Drawn0.step)⟩
           ·
            rw [if_neg c20] at H; have c20b0 := beq_eq_false_iff_ne.mpr c20; have c20b1 := bne_iff_ne.mpr c20; obtain rfl := Option.some.inj H; have p5 : 0 ≤ (x7_1 : Int) := ofd; have q5 : x7_1 < (a0.size : Int) := ofd; have hx5 := bt_at a0 x7_1; replace p5 := eq_true p5; replace q5 := eq_true q5
            go_wp2
            go_ret
            exact ⟨by first | rfl | (simp; done) | (simp [*]; done), by repeat (first | exact Drawn0.refl _ | apply Drawn0.step)⟩
        ·
         rw [if_neg c17] at H; have c17b0 := decide_eq_false c17; clear c17
         by_cases c21 : (bt a0 x7_1) > 57
         ·
          rw [if_pos c21] at H; have c21b0 := decide_eq_true c21; clear c21
          by_cases c22 : (bt a0 x7_1) = 46
          ·
           rw [if_pos c22] at H; have c22b0 := beq_iff_eq.mpr c22; have c22b1 := bne_eq_false_iff_eq.mpr c22; clear c22; have H' := mk0 H; clear H; have p5 : 0 ≤ (x7_1 : Int) := ofd; have q5 : x7_1 < (a0.size : Int) := ofd; have hx5 := bt_at a0 x7_1; replace p5 := eq_true p5; replace q5 := eq_true q5
           go_wp2
           go_roundg k1
           case measure => have := HK1.out; omega
           case rel => exact ⟨(wrap64 (x7_1 + 1)), cl0, H', cl2 HK1, by repeat (first | exact Drawn0.refl _ | apply Drawn0.step)⟩
          ·
           rw [if_neg c22] at H; have c22b0 := beq_eq_false_iff_ne.mpr c22; have c22b1 := bne_iff_ne.mpr c22
           by_cases c23 : (bt a0 x7_1) = 95
           ·
            rw [if_pos c23] at H; have c23b0 := beq_iff_eq.mpr c23; have c23b1 := bne_eq_false_iff_eq.mpr c23; clear c23; have H' := mk0 H; clear H; have p5 : 0 ≤ (x7_1 : Int) := ofd; have q5 : x7_1 < (a0.size : Int) := ofd; have hx5 := bt_at a0 x7_1; replace p5 := eq_true p5; replace q5 := eq_true q5
            go_wp2
            go_roundg k1
            case measure => have := HK1.out; omega
            case rel => exact ⟨(wrap64 (x7_1 + 1)), cl0, H', cl2 HK1, by repeat (first | exact Drawn0.refl _ | apply Drawn0.step)⟩
           ·
            rw [if_neg c23] at H; have c23b0 := beq_eq_false_iff_ne.mpr c23; have c23b1 := bne_iff_ne.mpr c23
            by_cases c24 : (bt a0 x7_1) = 45
            ·
             rw [if_pos c24] at H; have c24b0 := beq_iff_eq.mpr c24; have c24b1 := bne_eq_false_iff_eq.mpr c24; clear c24; have H' := mk0 H; clear H; have p5 : 0 ≤ (x7_1 : Int) := ofd; have q5 : x7_1 < (a0.size : Int) := ofd; have hx5 := bt_at a0 x7_1; replace p5 := eq_true p5; replace q5 := eq_true q5
             go_wp2
             go_roundg k1
             case measure => have := HK1.out; omega
             case rel => exact ⟨(wrap64 (x7_1 + 1)), cl0, H', cl2 HK1, by repeat (first | exact Drawn0.refl _ | apply Drawn0.step)⟩
            ·
             rw [if_neg c24] at H; have c24b0 := beq_eq_false_iff_ne.mpr c24; have c24b1 := bne_iff_ne.mpr c24; obtain rfl := Option.some.inj H; have p5 : 0 ≤ (x7_1 : Int) := ofd; have q5 : x7_1 < (a0.size : Int) := ofd; have hx5 := bt_at a0 x7_1; replace p5 := eq_true p5; replace q5 := eq_true q5
             go_wp2
             go_ret
             exact ⟨by first | rfl | (simp; done) | (simp [*]; done), by repeat (first | exact Drawn0.refl _ | apply Drawn0.step)⟩
         ·
          rw [if_neg c21] at H; have c21b0 := decide_eq_false c21; clear c21; have H' := mk0 H; clear H; have p5 : 0 ≤ (x7_1 : Int) := ofd; have q5 : x7_1 < (a0.size : Int) := ofd; have hx5 := bt_at a0 x7_1; replace p5 := eq_true p5; replace q5 := eq_true q5
          go_wp2
          go_roundg k1
          case measure => have := HK1.out; omega
          case rel => exact ⟨(wrap64 (x7_1 + 1)), cl0, H', cl2 HK1, by repeat (first | exact Drawn0.refl _ | apply Drawn0.step)⟩
       ·
        rw [if_neg c16] at H; have c16b0 := decide_eq_false c16; clear c16; have H' := mk0 H; clear H; have p5 : 0 ≤ (x7_1 : Int) := ofd; have q5 : x7_1 < (a0.size : Int) := ofd; have hx5 := bt_at a0 x7_1; replace p5 := eq_true p5; replace q5 := eq_true q5
        go_wp2
        go_roundg k1
        case measure => have := HK1.out; omega
        case rel => exact ⟨(wrap64 (x7_1 + 1)), cl0, H', cl2 HK1, by repeat (first | exact Drawn0.refl _ | apply Drawn0.step)⟩
     ·
      rw [if_neg c6] at H; have c6b0 := decide_eq_false c6; clear c6
      by_cases c25 : (bt a0 x7_1) > 122
      ·
       rw [if_pos c25] at H; have c25b0 := decide_eq_true c25; clear c25
       by_cases c26 : (bt a0 x7_1) < 65
       ·
        rw [if_pos c26] at H; have c26b0 := decide_eq_true c26; clear c26
        by_cases c27 : (bt a0 x7_1) < 48
        ·
         rw [if_pos c27] at H; have c27b0 := decide_eq_true c27; clear c27
         by_cases c28 : (bt a0 x7_1) = 46
         ·
          rw [if_pos c28] at H; have c28b0 := beq_iff_eq.mpr c28; have c28b1 := bne_eq_false_iff_eq.mpr c28; clear c28; have H' := mk0 H; clear H; have p5 : 0 ≤ (x7_1 : Int) := ofd; have q5 : x7_1 < (a0.size : Int) := ofd; have hx5 := bt_at a0 x7_1; replace p5 := eq_true p5; replace q5 := eq_true q5
          go_wp2
          go_roundg k1
          case measure => have := HK1.out; omega
          case rel => exact ⟨(wrap64 (x7_1 + 1)), cl0, H', cl2 HK1, by repeat (first | exact Drawn0.refl _ | apply Drawn0.step)⟩
         ·
          rw [if_neg c28] at H; have c28b0 := beq_eq_false_iff_ne.mpr c28; have c28b1 := bne_iff_ne.mpr c28
          by_cases c29 : (bt a0 x7_1) = 95
          ·
           rw [if_pos c29] at H; have c29b0 := beq_iff_eq.mpr c29; have c29b1 := bne_eq_false_iff_eq.mpr c29; clear c29; have H' := mk0 H; clear H; have p5 : 0 ≤ (x7_1 : Int) := ofd; have q5 : x7_1 < (a0.size : Int) := ofd; have hx5 := bt_at a0 x7_1; replace p5 := eq_true p5; replace q5 := eq_true q5
           go_wp2
           go_roundg k1
           case measure => have := HK1.out; omega
           case rel => exact ⟨(wrap64 (x7_1 + 1)), cl0, H', cl2 HK1, by repeat (first | exact Drawn0.refl _ | apply Drawn0.step)⟩
          ·
           rw [if_neg c29] at H; have c29b0 := beq_eq_false_iff_ne.mpr c29; have c29b1 := bne_iff_ne.mpr c29
           by_cases c30 : (bt a0 x7_1) = 45
           ·
            rw [if_pos c30] at H; have c30b0 := beq_iff_eq.mpr c30; have c30b1 := bne_eq_false_iff_eq.mpr c30; clear c30; have H' := mk0 H; clear H; have p5 : 0 ≤ (x7_1 : Int) := ofd; have q5 : x7_1 < (a0.size : Int) := ofd; have hx5 := bt_at a0 x7_1; replace p5 := eq_true p5; replace q5 := eq_true q5
            go_wp2
            go_roundg k1
            case measure => have := HK1.out; omega
            case rel => exact ⟨(wrap64 (x7_1 + 1)), cl0, H', cl2 HK1, by repeat (first | exact Drawn0.refl _ | apply Drawn0.step)⟩
           ·
            rw [if_neg c30] at H; have c30b0 := beq_eq_false_iff_ne.mpr c30; have c30b1 := bne_iff_ne.mpr c30; obtain rfl := Option.some.inj H; have p5 : 0 ≤ (x7_1 : Int) := ofd; have q5 : x7_1 < (a0.size : Int) := ofd; have hx5 := bt_at a0 x7_1; replace p5 := eq_true p5; replace q5 := eq_true q5
            go_wp2
            go_ret
            exact ⟨by first | rfl | (simp; done) | (simp [*]; done), by repeat (first | exact Drawn0.refl _ | apply Drawn0.step)⟩
        ·
         rw [if_neg c27] at H; have c27b0 := decide_eq_false c27; clear c27
         by_cases c31 : (bt a0 x7_1) > 57
         ·
          rw [if_pos c31] at H; have c31b0 := decide_eq_true c31; clear c31
          by_cases c32 : (bt a0 x7_1) = 46
          ·
           rw [if_pos c32] at H; have c32b0 := beq_iff_eq.mpr c32; have c32b1 := bne_eq_false_iff_eq.mpr c32; clear c32; have H' := mk0 H; clear H; have p5 : 0 ≤ (x7_1 : Int) := ofd; have q5 : x7_1 < (a0.size : Int) := ofd; have hx5 := bt_at a0 x7_1; replace p5 := eq_true p5; replace q5 := eq_true q5
           go_wp2
           go_roundg k1
           case measure => have := HK1.out; omega
           case rel => exact ⟨(wrap64 (x7_1 + 1)), cl0, H', cl2 HK1, by repeat (first | exact Drawn0.refl _ | apply Drawn0.step)⟩
          ·
           rw [if_neg c32] at H; have c32b0 := beq_eq_false_iff_ne.mpr c32; have c32b1 := bne_iff_ne.mpr c32
           by_cases c33 : (bt a0 x7_1) = 95
           ·
            rw [if_pos c33] at H; have c33b0 := beq_iff_eq.mpr c33; have c33b1 := bne_eq_false_iff_eq.mpr c33; clear c33; have H' := mk0 H; clear H; have p5 : 0 ≤ (x7_1 : Int) := ofd; have q5 : x7_1 < (a0.size : Int) := ofd; have hx5 := bt_at a0 x7_1; replace p5 := eq_true p5; replace q5 := eq_true q5
            go_wp2
            go_roundg k1
            case measure => have := HK1.out; omega
            case rel => exact ⟨(wrap64 (x7_1 + 1)), cl0, H', cl2 HK1, by repeat (first | exact Drawn0.refl _ | apply Drawn0.step)⟩
           ·
            rw [if_neg c33] at H; have c33b0 := beq_eq_false_iff_ne.mpr c33; have c33b1 := bne_iff_ne.mpr c33
            by_cases c34 : (bt a0 x7_1) = 45
            ·
             rw [if_pos c34] at H; have c34b0 := beq_iff_eq.mpr c34; have c34b1 := bne_eq_false_iff_eq.mpr c34; clear c34; have H' := mk0 H; clear H; have p5 : 0 ≤ (x7_1 : Int) := ofd; have q5 : x7_1 < (a0.size : Int) := ofd; have hx5 := bt_at a0 x7_1; replace p5 := eq_true p5; replace q5 := eq_true q5
             go_wp2
             go_roundg k1
             case measure => have := HK1.out; omega
             case rel => exact ⟨(wrap64 (x7_1 + 1)), cl0, H', cl2 HK1, by repeat (first | exact Drawn0.refl _ | apply Drawn0.step)⟩
            ·
             rw [if_neg c34] at H; have c34b0 := beq_eq_false_iff_ne.mpr c34; have c34b1 := bne_iff_ne.mpr c34; obtain rfl := Option.some.inj H; have p5 : 0 ≤ (x7_1 : Int) := ofd; have q5 : x7_1 < (a0.size : Int) := ofd; have hx5 := bt_at a0 x7_1; replace p5 := eq_true p5; replace q5 := eq_true q5
             go_wp2
             go_ret
             exact ⟨by first | rfl | (simp; done) | (simp [*]; done), by repeat (first | exact Drawn0.refl _ | apply Drawn0.step)⟩
         ·
          rw [if_neg c31] at H; have c31b0 := decide_eq_false c31; clear c31; have H' := mk0 H; clear H; have p5 : 0 ≤ (x7_1 : Int) := ofd; have q5 : x7_1 < (a0.size : Int) := ofd; have hx5 := bt_at a0 x7_1; replace p5 := eq_true p5; replace q5 := eq_true q5
          go_wp2
          go_roundg k1
          case measure => have := HK1.out; omega
          case rel => exact ⟨(wrap64 (x7_1 + 1)), cl0, H', cl2 HK1, by repeat (first | exact Drawn0.refl _ | apply Drawn0.step)⟩
       ·
        rw [if_neg c26] at H; have c26b0 := decide_eq_false c26; clear c26
        by_cases c35 : (bt a0 x7_1) > 90
        ·
         rw [if_pos c35] at H; have c35b0 := decide_eq_true c35; clear c35
         by_cases c36 : (bt a0 x7_1) < 48
         ·
          rw [if_pos c36] at H; have c36b0 := decide_eq_true c36; clear c36
          by_cases c37 : (bt a0 x7_1) = 46
          ·
           rw [if_pos c37] at H; have c37b0 := beq_iff_eq.mpr c37; have c37b1 := bne_eq_false_iff_eq.mpr c37; clear c37; have H' := mk0 H; clear H; have p5 : 0 ≤ (x7_1 : Int) := ofd; have q5 : x7_1 < (a0.size : Int) := ofd; have hx5 := bt_at a0 x7_1; replace p5 := eq_true p5; replace q5 := eq_true q5
           go_wp2
           go_roundg k1
           case measure => have := HK1.out; omega
           case rel => exact ⟨(wrap64 (x7_1 + 1)), cl0, H', cl2 HK1, by repeat (first | exact Drawn0.refl _ | apply Drawn0.step)⟩
          ·
           rw [if_neg c37] at H; have c37b0 := beq_eq_false_iff_ne.mpr c37; have c37b1 := bne_iff_ne.mpr c37
           by_cases c38 : (bt a0 x7_1) = 95
           ·
            rw [if_pos c38] at H; have c38b0 := beq_iff_eq.mpr c38; have c38b1 := bne_eq_false_iff_eq.mpr c38; clear c38; have H' := mk0 H; clear H; have p5 : 0 ≤ (x7_1 : Int) := ofd; have q5 : x7_1 < (a0.size : Int) := ofd; have hx5 := bt_at a0 x7_1; replace p5 := eq_true p5; replace q5 := eq_true q5
            go_wp2
            go_roundg k1
            case measure => have := HK1.out; omega
            case rel => exact ⟨(wrap64 (x7_1 + 1)), cl0, H', cl2 HK1, by repeat (first | exact Drawn0.refl _ | apply Drawn0.step)⟩
           ·
            rw [if_neg c38] at H; have c38b0 := beq_eq_false_iff_ne.mpr c38; have c38b1 := bne_iff_ne.mpr c38
            by_cases c39 : (bt a0 x7_1) = 45
            ·
             rw [if_pos c39] at H; have c39b0 := beq_iff_eq.mpr c39; have c39b1 := bne_eq_false_iff_eq.mpr c39; clear c39; have H' := mk0 H; clear H; have p5 : 0 ≤ (x7_1 : Int) := ofd; have q5 : x7_1 < (a0.size : Int) := ofd; have hx5 := bt_at a0 x7_1; replace p5 := eq_true p5; replace q5 := eq_true q5
             go_wp2
             go_roundg k1
             case measure => have := HK1.out; omega
             case rel => exact ⟨(wrap64 (x7_1 + 1)), cl0, H', cl2 HK1, by repeat (first | exact Drawn0.refl _ | apply Drawn0.step)⟩
            ·
             rw [if_neg c39] at H; have c39b0 := beq_eq_false_iff_ne.mpr c39; have c39b1 := bne_iff_ne.mpr c39; obtain rfl := Option.some.inj H; have p5 : 0 ≤ (x7_1 : Int) := ofd; have q5 : x7_1 < (a0.size : Int) := ofd; have hx5 := bt_at a0 x7_1; replace p5 := eq_true p5; replace q5 := eq_true q5
             go_wp2
             go_ret
             exact ⟨by first | rfl | (simp; done) | (simp [*]; done), by repeat (first | exact Drawn0.refl _ | apply Drawn0.step)⟩
         ·
          rw [if_neg c36] at H; have c36b0 := decide_eq_false c36; clear c36
          by_cases c40 : (bt a0 x7_1) > 57
          ·
           rw [if_pos c40] at H; have c40b0 := decide_eq_true c40; clear c40
           by_cases c41 : (bt a0 x7_1) = 46
           ·
            rw [if_pos c41] at H; have c41b0 := beq_iff_eq.mpr c41; have c41b1 := bne_eq_false_iff_eq.mpr c41; clear c41; have H' := mk0 H; clear H; have p5 : 0 ≤ (x7_1 : Int) := ofd; have q5 : x7_1 < (a0.size : Int) := ofd; have hx5 := bt_at a0 x7_1; replace p5 := eq_true p5; replace q5 := eq_true q5
            go_wp2
            go_roundg k1
            case measure => have := HK1.out; omega
            case rel => exact ⟨(wrap64 (x7_1 + 1)), cl0, H', cl2 HK1, by repeat (first | exact Drawn0.refl _ | apply Drawn0.step)⟩
           ·
            rw [if_neg c41] at H; have c41b0 := beq_eq_false_iff_ne.mpr c41; have c41b1 := bne_iff_ne.mpr c41
            by_cases c42 : (bt a0 x7_1) = 95
            ·
             rw [if_pos c42] at H; have c42b0 := beq_iff_eq.mpr c42; have c42b1 := bne_eq_false_iff_eq.mpr c42; clear c42; have H' := mk0 H; clear H; have p5 : 0 ≤ (x7_1 : Int) := ofd; have q5 : x7_1 < (a0.size : Int) := ofd; have hx5 := bt_at a0 x7_1; replace p5 := eq_true p5; replace q5 := eq_true q5
             go_wp2
             go_roundg k1
             case measure => have := HK1.out; omega
             case rel => exact ⟨(wrap64 (x7_1 + 1)), cl0, H', cl2 HK1, by repeat (first | exact Drawn0.refl _ | apply Drawn0.step)⟩
            ·
             rw [if_neg c42] at H; have c42b0 := beq_eq_false_iff_ne.mpr c42; have c42b1 := bne_iff_ne.mpr c42
             by_cases c43 : (bt a0 x7_1) = 45
             ·
              rw [if_pos c43] at H; have c43b0 := beq_iff_eq.mpr c43; have c43b1 := bne_eq_false_iff_eq.mpr c43; clear c43; have H' := mk0 H; clear H; have p5 : 0 ≤ (x7_1 : Int) := ofd; have q5 : x7_1 < (a0.size : Int) := ofd; have hx5 := bt_at a0 x7_1; replace p5 := eq_true p5; replace q5 := eq_true q5
              go_wp2
              go_roundg k1
              case measure => have := HK1.out; omega
              case rel => exact ⟨(wrap64 (x7_1 + 1)), cl0, H', cl2 HK1, by repeat (first | exact Drawn0.refl _ | apply Drawn0.step)⟩
             ·
              rw [if_neg c43] at H; have c43b0 := beq_eq_false_iff_ne.mpr c43; have c43b1 := bne_iff_ne.mpr c43; obtain rfl := Option.some.inj H; have p5 : 0 ≤ (x7_1 : Int) := ofd; have q5 : x7_1 < (a0.size : Int) := ofd; have hx5 := bt_at a0 x7_1; replace p5 := eq_true p5; replace q5 := eq_true q5
              go_wp2
              go_ret
              exact ⟨by first | rfl | (simp; done) | (simp [*]; done), by repeat (first | exact Drawn0.refl _ | apply Drawn0.step)⟩
          ·
           rw [if_neg c40] at H; have c40b0 := decide_eq_false c40; clear c40; have H' := mk0 H; clear H; have p5 : 0 ≤ (x7_1 : Int) := ofd; have q5 : x7_1 < (a0.size : Int) := ofd; have hx5 := bt_at a0 x7_1; replace p5 := eq_true p5; replace q5 := eq_true q5
           go_wp2
           go_roundg k1
           case measure => have := HK1.out; omega
           case rel => exact ⟨(wrap64 (x7_1 + 1)), cl0, H', cl2 HK1, by repeat (first | exact Drawn0.refl _ | apply Drawn0.step)⟩
        ·
         rw [if_neg c35] at H; have c35b0 := decide_eq_false c35; clear c35; have H' := mk0 H; clear H; have p5 : 0 ≤ (x7_1 : Int) := ofd; have q5 : x7_1 < (a0.size : Int) := ofd; have hx5 := bt_at a0 x7_1; replace p5 := eq_true p5; replace q5 := eq_true q5
         go_wp2
         go_roundg k1
         case measure => have := HK1.out; omega
         case rel => exact ⟨(wrap64 (x7_1 + 1)), cl0, H', cl2 HK1, by repeat (first | exact Drawn0.refl _ | apply Drawn0.step)⟩
      ·
       rw [if_neg c25] at H; have c25b0 := decide_eq_false c25; clear c25; have H' := mk0 H; clear H; have p5 : 0 ≤ (x7_1 : Int) := ofd; have q5 : x7_1 < (a0.size : Int) := ofd; have hx5 := bt_at a0 x7_1; replace p5 := eq_true p5; replace q5 := eq_true q5
       go_wp2
       go_roundg k1
       case measure => have := HK1.out; omega
       case rel => exact ⟨(wrap64 (x7_1 + 1)), cl0, H', cl2 HK1, by repeat (first | exact Drawn0.refl _ | apply Drawn0.step)⟩
    ·
     exact absurd (of_decide_eq_true c2b0) c4
   ·
    rw [if_neg c2] at H; have c2b0 := decide_eq_false c2; clear c2
    by_cases c44 : a0.toList = ([] : List UInt8)
    ·
     rw [if_pos c44] at H; have c44b0 := beq_iff_eq.mpr c44; have c44b1 := bne_eq_false_iff_eq.mpr c44; clear c44; obtain rfl := Option.some.inj H
     go_wp2
     go_ret
     exact ⟨by first | rfl | (simp; done) | (simp [*]; done), by repeat (first | exact Drawn0.refl _ | apply Drawn0.step)⟩
    ·
     rw [if_neg c44] at H; have c44b0 := beq_eq_false_iff_ne.mpr c44; have c44b1 := bne_iff_ne.mpr c44
     by_cases c45 : a0.toList = ([46] : List UInt8)
     ·
      rw [if_pos c45] at H; have c45b0 := beq_iff_eq.mpr c45; have c45b1 := bne_eq_false_iff_eq.mpr c45; clear c45; obtain rfl := Option.some.inj H
      go_wp2
      go_ret
      exact ⟨by first | rfl | (simp; done) | (simp [*]; done), by repeat (first | exact Drawn0.refl _ | apply Drawn0.step)⟩
     ·
      rw [if_neg c45] at H; have c45b0 := beq_eq_false_iff_ne.mpr c45; have c45b1 := bne_iff_ne.mpr c45; obtain rfl := Option.some.inj H
      go_wp2
      go_ret
      exact ⟨by first | rfl | (simp; done) | (simp [*]; done), by repeat (first | exact Drawn0.refl _ | apply Drawn0.step)⟩
end Go.Proofs.YtgmggompdidcoaaDoor.X
