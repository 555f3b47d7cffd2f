import Derived.Test.YtgmggompdidcoaaGreatDoorMPbtensorWrites2
import Derived.Test.YtgmggompdidcoaaGreatDoorMPbtensorWrites6
import Derived.Test.YtgmggompdidcoaaGreatDoorMPbtensorWrites3
import Derived.Test.YtgmggompdidcoaaGreatDoorMPbtensorWrites7
import Derived.Test.YtgmggompdidcoaaGreatDoorMPbtensorWrites8
import Derived.Test.YtgmggompdidcoaaGreatDoorMPbtensorWrites9
namespace Go.Proofs.YtgmggompdidcoaaGreatDoor.X
open Go.RowKit Go.Proofs.YtgmggompdidcoaaGreatDoorW.PrintWords Go.Proofs.YtgmggompdidcoaaGreatDoorW.PrintLast Go.Proofs.YtgmggompdidcoaaGreatDoorW.PrintMore
attribute [local go_sem] max2_int min2_int max_two min_two max_three min_three max_four min_four
set_option linter.unusedVariables false
set_option linter.unusedSimpArgs false
def agateref06_whole.f (a0 : Int) : Option (Int × Bool) := if 0 ≤ a0 ∧ a0 < 4294967296 then some (wholeS a0.toNat) else none
theorem neg_w (y : Nat) (h : y ≤ 16777216) : wrap64 (-(y : Int)) = -(y : Int) := wrap64_id (by omega) (by omega)
theorem whole_fin (y : Nat) (b : Bool) (h : y ≤ 16777216) : Ending.returned (.tuple #[.int .i64 (wrap64 (-(y : Int))), .bool b]) = Ending.returned (.tuple #[.int .i64 (sgn true y, b).1, .bool (sgn true y, b).2]) := by
  rw [neg_w y h]; rfl
theorem half_w (y : Nat) (h : y ≤ 16777216) : wrap64 ((y : Int) / 2) = ((y / 2 : Nat) : Int) := by rw [wrap64_id (by omega) (by omega)]; omega
theorem mod_step (M i : Nat) (h : M % 2 ^ i = 0) : M % 2 ^ (i + 1) = 2 ^ i * (M / 2 ^ i % 2) := by
  rw [Nat.pow_succ, Nat.mod_mul, h, Nat.zero_add]
theorem mod_up (M i j : Nat) (hij : i ≤ j) (h : M % 2 ^ j = 0) : M % 2 ^ i = 0 := by
  obtain ⟨d, rfl⟩ : ∃ d, j = i + d := ⟨j - i, by omega⟩
  have h1 := Nat.dvd_of_mod_eq_zero h
  exact Nat.mod_eq_zero_of_dvd (Nat.dvd_trans (Nat.pow_dvd_pow 2 (by omega)) h1)
theorem whole_odd (v i : Nat) (h0 : v ≠ 0) (hi : v / 8388608 % 256 + i < 150) (hE : 127 ≤ v / 8388608 % 256 ∧ v / 8388608 % 256 ≤ 147) (hM : (v % 8388608 + 8388608) % 2 ^ i = 0) (ho : ¬ (v % 8388608 + 8388608) / 2 ^ i % 2 = 0) : wholeS v = (0, false) := by
  unfold wholeS
  rw [if_neg h0, if_neg (by omega), if_neg]
  intro h
  have h2 := mod_up _ (i + 1) _ (by omega) h
  rw [mod_step _ _ hM] at h2
  rcases Nat.mul_eq_zero.1 h2 with h3 | h3
  · have := Nat.two_pow_pos i; omega
  · exact ho h3
theorem whole_end (v i : Nat) (h0 : v ≠ 0) (hi : v / 8388608 % 256 + i = 150) (hE : 127 ≤ v / 8388608 % 256 ∧ v / 8388608 % 256 ≤ 147) (hM : (v % 8388608 + 8388608) % 2 ^ i = 0) : wholeS v = (sgn (decide (v ≥ 2147483648)) ((v % 8388608 + 8388608) / 2 ^ i), decide ((v % 8388608 + 8388608) / 2 ^ i ≤ 1048576)) := by
  unfold wholeS
  rw [if_neg h0, if_neg (by omega), show 150 - v / 8388608 % 256 = i by omega, if_pos hM]
set_option maxHeartbeats 8000000 in
set_option maxRecDepth 100000 in
theorem ref06_whole.calls (v : Nat) (hv : v < 4294967296) (w : World) :
    Calls Tryz.prog 67 #[.int .u32 (v : Int)] w fun e w' => e = .returned (.tuple #[.int .i64 (wholeS v).1, .bool (wholeS v).2]) ∧ Drawn0 w w' := by
  by_cases h0 : v = 0
  · subst h0
    have es : wholeS 0 = (0, true) := by unfold wholeS; rw [if_pos rfl]
    rw [es]
    go_enter Tryz.func67, Tryz.ntmps67
    go_wp2
    go_ret2
    exact ⟨rfl, Drawn0.refl _⟩
  · have h0b : ((v : Int) == 0) = false := beq_eq_false_iff_ne.2 (by omega)
    by_cases h1 : v / 8388608 % 256 < 127
    · have es : wholeS v = (0, false) := by unfold wholeS; rw [if_neg h0, if_pos (Or.inl h1)]
      rw [es]
      have h1b : decide ((v : Int) / 8388608 % 256 < 127) = true := decide_eq_true (by omega)
      clear es h0 h1
      go_enter Tryz.func67, Tryz.ntmps67
      go_wp2
      go_ret2
      exact ⟨rfl, Drawn0.refl _⟩
    · have h1b : decide ((v : Int) / 8388608 % 256 < 127) = false := decide_eq_false (by omega)
      by_cases h2 : v / 8388608 % 256 > 147
      · have es : wholeS v = (0, false) := by unfold wholeS; rw [if_neg h0, if_pos (Or.inr h2)]
        rw [es]
        have h2b : decide (147 < (v : Int) / 8388608 % 256) = true := decide_eq_true (by omega)
        clear es h0 h1 h2
        go_enter Tryz.func67, Tryz.ntmps67
        go_wp2
        go_ret2
        exact ⟨rfl, Drawn0.refl _⟩
      · have h2b : decide (147 < (v : Int) / 8388608 % 256) = false := decide_eq_false (by omega)
        have hE : Aside0 (127 ≤ v / 8388608 % 256 ∧ v / 8388608 % 256 ≤ 147) := ⟨⟨by omega, by omega⟩⟩
        have H0 := Aside0.mk h0
        have HV := Aside0.mk hv
        clear h0 h1 h2
        go_enter Tryz.func67, Tryz.ntmps67
        go_wp2
        clear h0b h1b h2b
        go_loopg [4, 5] (150 - v / 8388608 % 256) (fun kq v4 v5 w' => ∃ i : Nat, v4 = .int .i64 ((v / 8388608 % 256 + i : Nat) : Int) ∧ v5 = .int .i64 (((v % 8388608 + 8388608) / 2 ^ i : Nat) : Int) ∧ Aside0 (v / 8388608 % 256 + i + kq = 150) ∧ Aside0 ((v % 8388608 + 8388608) % 2 ^ i = 0) ∧ Aside0 (Drawn0 w w'))
        case atStart => exact ⟨0, by congr 1, by rw [Nat.pow_zero, Nat.div_one]; congr 1, ⟨by have := hE.out; omega⟩, ⟨by rw [Nat.pow_zero, Nat.mod_one]⟩, ⟨Drawn0.refl _⟩⟩
        case round =>
          obtain ⟨i, rfl, rfl, HK, HM, HD⟩ := hrel
          have hy0 : (v % 8388608 + 8388608) / 2 ^ i ≤ 16777216 := Nat.le_trans (Nat.div_le_self _ _) (by omega)
          have Hodd := Aside0.mk (fun (hi : v / 8388608 % 256 + i < 150) => whole_odd v i H0.out hi hE.out HM.out)
          have Hend := Aside0.mk (fun (hi : v / 8388608 % 256 + i = 150) => whole_end v i H0.out hi hE.out HM.out)
          have Hup : Aside0 ((v % 8388608 + 8388608) / 2 ^ i % 2 = 0 → (v % 8388608 + 8388608) % 2 ^ (i + 1) = 0) := ⟨fun h => by rw [mod_step _ _ HM.out, h, Nat.mul_zero]⟩
          have Hdiv : Aside0 ((v % 8388608 + 8388608) / 2 ^ (i + 1) = (v % 8388608 + 8388608) / 2 ^ i / 2) := ⟨by rw [Nat.pow_succ, Nat.div_div_eq_div_mul]⟩
          generalize hxx : v / 8388608 % 256 + i = x at HK Hodd Hend ⊢
          generalize hyy : (v % 8388608 + 8388608) / 2 ^ i = y at hy0 Hodd Hend Hup Hdiv ⊢
          have HX := Aside0.mk hxx
          have HY0 := Aside0.mk hy0
          clear hxx hyy hy0
          by_cases hlt : x < 150
          · obtain ⟨kk, rfl⟩ : ∃ m, gk = m + 1 := ⟨gk - 1, by have := HK.out; omega⟩
            have hb : decide ((x : Int) < 150) = true := decide_eq_true (by omega)
            by_cases ho : y % 2 = 0
            · have ho1 : ((y : Int) % 2 == 0) = true := beq_iff_eq.2 (by omega)
              have ho2 : ((y : Int) % 2 != 0) = false := bne_eq_false_iff_eq.2 (by omega)
              go_wp2_with (first | (fail))
              go_roundg kk
              case measure => have := HK.out; omega
              case rel => exact ⟨i + 1, by rw [← Nat.add_assoc, HX.out]; rfl, by rw [Hdiv.out, half_w y HY0.out], ⟨by have := HK.out; have := HX.out; omega⟩, ⟨Hup.out ho⟩, HD⟩
            · have ho1 : ((y : Int) % 2 == 0) = false := beq_eq_false_iff_ne.2 (by omega)
              have ho2 : ((y : Int) % 2 != 0) = true := bne_iff_ne.2 (by omega)
              go_wp2_with (first | (fail))
              go_ret2
              exact ⟨by rw [Hodd.out hlt ho]; rfl, HD.out⟩
          · have hb : decide ((x : Int) < 150) = false := decide_eq_false (by omega)
            have hx150 : x = 150 := by have := HK.out; omega
            have HW := Aside0.mk (neg_w y HY0.out)
            have He := Aside0.mk (Hend.out hx150)
            clear Hodd Hend hx150
            by_cases hs : v ≥ 2147483648
            · have hs1 : decide (2147483648 ≤ (v : Int)) = true := decide_eq_true (by omega)
              rw [decide_eq_true hs] at He
              by_cases hk : y ≤ 1048576
              · have g1 := Aside0.mk (show decide (-1048576 ≤ wrap64 (-(y : Int))) = true by rw [HW.out]; exact decide_eq_true (by omega))
                have g2 := Aside0.mk (show decide (wrap64 (-(y : Int)) ≤ 1048576) = true by rw [HW.out]; exact decide_eq_true (by omega))
                rw [decide_eq_true hk] at He
                clear hk hs hlt
                have g1 := g1.out
                have g2 := g2.out
                go_wp2_with (first | (fail))
                clear g1 g2
                go_ret2
                exact ⟨by rw [He.out]; exact whole_fin y true HY0.out, HD.out⟩
              · have g1 := Aside0.mk (show decide (-1048576 ≤ wrap64 (-(y : Int))) = false by rw [HW.out]; exact decide_eq_false (by omega))
                rw [decide_eq_false hk] at He
                clear hk hs hlt
                have g1 := g1.out
                go_wp2_with (first | (fail))
                clear g1
                go_ret2
                exact ⟨by rw [He.out]; exact whole_fin y false HY0.out, HD.out⟩
            · have hs1 : decide (2147483648 ≤ (v : Int)) = false := decide_eq_false (by omega)
              rw [decide_eq_false hs] at He
              have g1 : decide (-1048576 ≤ (y : Int)) = true := decide_eq_true (by omega)
              have g2 : decide ((y : Int) ≤ 1048576) = decide (y ≤ 1048576) := by rw [decide_eq_decide]; omega
              clear hs hlt
              go_wp2_with (first | (fail))
              go_ret2
              exact ⟨by rw [He.out]; first | rfl | (rw [← g2]; rfl), HD.out⟩
theorem agateref06_whole.calls (a0 : Int) (r1 : Int) (r2 : Bool) (w : World) (h : agateref06_whole.f a0 = some (r1, r2)) :
    Calls Tryz.prog 67 #[.int .u32 a0] w fun e w' => e = .returned (.tuple #[.int .i64 r1, .bool r2]) ∧ Drawn0 w w' := by
  unfold agateref06_whole.f at h
  split at h
  · rename_i hs
    have h := Option.some.inj h
    have := ref06_whole.calls a0.toNat (by omega) w
    rw [h, show ((a0.toNat : Nat) : Int) = a0 by omega] at this
    exact this
  · cases h
def agateref06_word.f (a0 : ByteArray) : Option (Int) := if 0 < (a0.size : Int) then (if 1 < (a0.size : Int) then (if 2 < (a0.size : Int) then (if 3 < (a0.size : Int) then (some ((((((((bt a0 0) % 4294967296) + ((((bt a0 1) % 4294967296) * 256) % 4294967296)) % 4294967296) + ((((bt a0 2) % 4294967296) * 65536) % 4294967296)) % 4294967296) + ((((bt a0 3) % 4294967296) * 16777216) % 4294967296)) % 4294967296)) else (none)) else (none)) else (none)) else (none)
set_option maxHeartbeats 8000000 in
set_option maxRecDepth 100000 in
theorem agateref06_word.calls (a0 : ByteArray) (r : Int) (w : World) (h : agateref06_word.f a0 = some r) :
    Calls Tryz.prog 68 #[.string a0] w fun e w' => e = .returned (.int .u32 r) ∧ Drawn0 w w' := by
  have H : (if 0 < (a0.size : Int) then (if 1 < (a0.size : Int) then (if 2 < (a0.size : Int) then (if 3 < (a0.size : Int) then (some ((((((((bt a0 0) % 4294967296) + ((((bt a0 1) % 4294967296) * 256) % 4294967296)) % 4294967296) + ((((bt a0 2) % 4294967296) * 65536) % 4294967296)) % 4294967296) + ((((bt a0 3) % 4294967296) * 16777216) % 4294967296)) % 4294967296)) else (none)) else (none)) else (none)) else (none)) = some r := h; clear h
  by_cases c2 : 0 < (a0.size : Int)
  · rw [if_pos c2] at H
    have c2b0 := decide_eq_true c2; have c2b1 : decide (0 < a0.size) = true := decide_eq_true (by omega); clear c2
    by_cases c4 : 1 < (a0.size : Int)
    · rw [if_pos c4] at H
      have c4b0 := decide_eq_true c4; have c4b1 : decide (1 < a0.size) = true := decide_eq_true (by omega); clear c4
      by_cases c6 : 2 < (a0.size : Int)
      · rw [if_pos c6] at H
        have c6b0 := decide_eq_true c6; have c6b1 : decide (2 < a0.size) = true := decide_eq_true (by omega); clear c6
        by_cases c8 : 3 < (a0.size : Int)
        · rw [if_pos c8] at H
          have c8b0 := decide_eq_true c8; have c8b1 : decide (3 < a0.size) = true := decide_eq_true (by omega); clear c8; obtain rfl := Option.some.inj H; have p3 : 0 ≤ (0 : Int) := (by omega); have q3 : 0 < a0.size := (by have : (0 : Int) < (a0.size : Int) := ofd; omega); have hx3 : ∀ h : 0 < a0.size, ((a0[0]'h).toNat : Int) = bt a0 0 := bt_at a0 0; clear p3; have qi3 : (0 < (a0.size : Int)) = True := eq_true (ofd); replace q3 := eq_true q3; have p5 : 0 ≤ (1 : Int) := (by omega); have q5 : 1 < a0.size := (by have : (1 : Int) < (a0.size : Int) := ofd; omega); have hx5 : ∀ h : 1 < a0.size, ((a0[1]'h).toNat : Int) = bt a0 1 := bt_at a0 1; clear p5; have qi5 : (1 < (a0.size : Int)) = True := eq_true (ofd); replace q5 := eq_true q5; have p7 : 0 ≤ (2 : Int) := (by omega); have q7 : 2 < a0.size := (by have : (2 : Int) < (a0.size : Int) := ofd; omega); have hx7 : ∀ h : 2 < a0.size, ((a0[2]'h).toNat : Int) = bt a0 2 := bt_at a0 2; clear p7; have qi7 : (2 < (a0.size : Int)) = True := eq_true (ofd); replace q7 := eq_true q7; have p9 : 0 ≤ (3 : Int) := (by omega); have q9 : 3 < a0.size := (by have : (3 : Int) < (a0.size : Int) := ofd; omega); have hx9 : ∀ h : 3 < a0.size, ((a0[3]'h).toNat : Int) = bt a0 3 := bt_at a0 3; clear p9; have qi9 : (3 < (a0.size : Int)) = True := eq_true (ofd); replace q9 := eq_true q9
          go_enter Tryz.func68, Tryz.ntmps68
          go_wp2
          repeat (go_quiet (fail); try go_wp2)
          go_ret
          exact ⟨by first | rfl | (simp; done) | (simp [*]; done), by repeat (first | exact Drawn0.refl _ | apply Drawn0.step)⟩
        · rw [if_neg c8] at H; exact ne0 H
      · rw [if_neg c6] at H; exact ne0 H
    · rw [if_neg c4] at H; exact ne0 H
  · rw [if_neg c2] at H; exact ne0 H
def agateref06_word_s.f (a0 : ByteArray) : Option Int := if 4 ≤ a0.size then some (wd a0 : Int) else none
theorem agateref06_word_s.ev (a0 : ByteArray) (r) (h : agateref06_word_s.f a0 = some r) : ∃ k : Nat, agateref06_word.f a0 = some r := by
  refine ⟨0, ?_⟩
  unfold agateref06_word_s.f at h
  split at h
  · rename_i hs
    rw [← h]
    unfold agateref06_word.f
    have h0 := bt_range a0 0
    have h1 := bt_range a0 1
    have h2 := bt_range a0 2
    have h3 := bt_range a0 3
    rw [if_pos (by omega), if_pos (by omega), if_pos (by omega), if_pos (by omega), wd_eq]
    exact congrArg some (by omega)
  · cases h
set_option maxHeartbeats 1000000 in
theorem agateref06_word_s.calls (a0 : ByteArray) (r : Int) (w : World) (h : agateref06_word_s.f a0 = some r) :
    Calls Tryz.prog 68 #[.string a0] w fun e w' => e = .returned (.int .u32 r) ∧ Drawn0 w w' := by
  obtain ⟨k, hk⟩ := agateref06_word_s.ev a0 _ h
  exact agateref06_word.calls a0 r w hk
def agateref06_Read.f (a0 : ByteArray) : Option (Int × Int × Int) := if (a0.size : Int) < 8 then (some (0, 0, 1)) else (if (a0.size : Int) > 8 then (some (0, 0, 2)) else (if 0 ≤ 4 then (if 4 ≤ (a0.size : Int) then ((agateref06_word_s.f (a0.extract 0 4)).bind fun t102 => ((agateref06_whole.f t102).bind fun bt103 => ((agateref06_word_s.f (a0.extract 4 a0.size)).bind fun t105 => ((agateref06_whole.f t105).bind fun bt106 => (if bt103.2 = true then (if bt106.2 = true then (some (bt103.1, bt106.1, 0)) else (some (0, 0, 17))) else (some (0, 0, 17))))))) else (none)) else (none)))
set_option maxHeartbeats 8000000 in
set_option maxRecDepth 100000 in
theorem agateref06_Read.calls (a0 : ByteArray) (r1 : Int) (r2 : Int) (r3 : Int) (w : World) (h : agateref06_Read.f a0 = some (r1, r2, r3)) :
  Calls Tryz.prog 33 #[.string a0] w fun e w' => e = .returned (.tuple #[.agg #[.int .i64 r1, .int .i64 r2], .int .i64 r3]) ∧ Below w.heap.size w w' := by
 have hu83 := Tryz.underlying83; have HB := mk0 (Below.refl w.heap.size w); have H : (if (a0.size : Int) < 8 then (some (0, 0, 1)) else (if (a0.size : Int) > 8 then (some (0, 0, 2)) else (if 0 ≤ 4 then (if 4 ≤ (a0.size : Int) then ((agateref06_word_s.f (a0.extract 0 4)).bind fun t102 => ((agateref06_whole.f t102).bind fun bt103 => ((agateref06_word_s.f (a0.extract 4 a0.size)).bind fun t105 => ((agateref06_whole.f t105).bind fun bt106 => (if bt103.2 = true then (if bt106.2 = true then (some (bt103.1, bt106.1, 0)) else (some (0, 0, 17))) else (some (0, 0, 17))))))) else (none)) else (none)))) = some (r1, r2, r3) := h; clear h
 by_cases c2 : (a0.size : Int) < 8
 ·
  rw [if_pos c2] at H; have c2b0 := decide_eq_true c2; have c2b1 : decide (a0.size < 8) = true := decide_eq_true (by omega); clear c2
  simp only [Option.some.injEq, Prod.mk.injEq] at H
  obtain ⟨rfl, rfl, rfl⟩ := H
  go_enter Tryz.func33, Tryz.ntmps33
  go_wp2_with (first | ((with_reducible refine gate_dst (N := 2) rfl ?_); refine boxE (N := 2) (cs := #[.int .i64 0, .int .i64 0]) (t := 83) ?_; intro gb101 hg w3 hbox hb; have BK101 := mk0 hbox; have GW101 := gwS HB hg; have GE101 := gwS HB hg; replace HB := hbS HB hb; clear hb hbox hg; obtain ⟨hcz4_0, hcz4_1⟩ := cz2 BK101; have hfz4_0 := fz BK101 0; have hfz4_1 := blk_frozen BK101.out 1))
  refine bodyPost_ret (results_ct rfl _ _ gb101 83 #[.int .i64 0, .int .i64 0] (0, 0) _ rfl (bkW BK101) Tryz.underlying83 rfl (by kernel_rfl)) rfl ?_
  exact ⟨cl3, hbA HB⟩
 ·
  rw [if_neg c2] at H; have c2b0 := decide_eq_false c2; have c2b1 : decide (a0.size < 8) = false := decide_eq_false (by omega); clear c2
  by_cases c5 : (a0.size : Int) > 8
  ·
   rw [if_pos c5] at H; have c5b0 := decide_eq_true c5; have c5b1 : decide (8 < a0.size) = true := decide_eq_true (by omega); clear c5
   simp only [Option.some.injEq, Prod.mk.injEq] at H
   obtain ⟨rfl, rfl, rfl⟩ := H
   go_enter Tryz.func33, Tryz.ntmps33
   go_wp2_with (first | ((with_reducible refine gate_dst (N := 2) rfl ?_); refine boxE (N := 2) (cs := #[.int .i64 0, .int .i64 0]) (t := 83) ?_; intro gb101 hg w6 hbox hb; have BK101 := mk0 hbox; have GW101 := gwS HB hg; have GE101 := gwS HB hg; replace HB := hbS HB hb; clear hb hbox hg; obtain ⟨hcz7_0, hcz7_1⟩ := cz2 BK101; have hfz7_0 := fz BK101 0; have hfz7_1 := blk_frozen BK101.out 1))
   refine bodyPost_ret (results_ct rfl _ _ gb101 83 #[.int .i64 0, .int .i64 0] (0, 0) _ rfl (bkW BK101) Tryz.underlying83 rfl (by kernel_rfl)) rfl ?_
   exact ⟨cl3, hbA HB⟩
  ·
   rw [if_neg c5] at H; have c5b0 := decide_eq_false c5; have c5b1 : decide (8 < a0.size) = false := decide_eq_false (by omega); clear c5; replace H := ifS H; obtain ⟨c8, H⟩ := H; have c8b0 := eq_true c8; have c8b1 := decide_eq_true c8; clear c8; replace H := ifS H; obtain ⟨c9, H⟩ := H; have c9b0 := eq_true c9; have c9b1 := decide_eq_true c9; clear c9; replace H := bnd H; obtain ⟨t102, A10, H⟩ := H; replace H := Option.bind_eq_some_iff.mp H; obtain ⟨⟨t103, t104⟩, A110, H⟩ := H; replace H : ((agateref06_word_s.f (a0.extract 4 a0.size)).bind fun t105 => ((agateref06_whole.f t105).bind fun bt106 => (if t104 = true then (if bt106.2 = true then (some (t103, bt106.1, 0)) else (some (0, 0, 17))) else (some (0, 0, 17))))) = some (r1, r2, r3) := H; have A11 := mk0 A110; clear A110; have c12b0 := eq_true (ofd : 4 ≤ (a0.size : Int)); replace H := bnd H; obtain ⟨t105, A13, H⟩ := H; replace H := Option.bind_eq_some_iff.mp H; obtain ⟨⟨t106, t107⟩, A140, H⟩ := H; replace H : (if t104 = true then (if t107 = true then (some (t103, t106, 0)) else (some (0, 0, 17))) else (some (0, 0, 17))) = some (r1, r2, r3) := H; have A14 := mk0 A140; clear A140
   by_cases c15 : t104 = true
   ·
    subst c15; have H1 : (if t107 = true then (some (t103, t106, 0)) else (some (0, 0, 17))) = some (r1, r2, r3) := by rw [if_pos rfl] at H; exact H
    clear H; have H := H1; clear H1
    by_cases c16 : t107 = true
    ·
     subst c16; have H1 : (some (t103, t106, 0)) = some (r1, r2, r3) := by rw [if_pos rfl] at H; exact H
     clear H; have H := H1; clear H1
     simp only [Option.some.injEq, Prod.mk.injEq] at H
     obtain ⟨rfl, rfl, rfl⟩ := H
     go_enter Tryz.func33, Tryz.ntmps33
     go_wp2_with (first | ((with_reducible refine gate_dst (N := 2) rfl ?_); refine boxE (N := 2) (cs := #[.int .i64 0, .int .i64 0]) (t := 83) ?_; intro gb101 hg w17 hbox hb; have BK101 := mk0 hbox; have GW101 := gwS HB hg; have GE101 := gwS HB hg; replace HB := hbS HB hb; clear hb hbox hg) | ((with_reducible refine gate_callee (f := 68) rfl ?_); refine glE (some 19) rfl rfl Tryz.func68 (by kernel_rfl) rfl #[.string (a0.extract 0 4)] rfl ?_; (with_reducible refine (agateref06_word_s.calls (a0.extract 0 4) t102 _ A10.out).mono ?_); rintro e w' ⟨rfl, ⟨nd, rfl⟩⟩; refine ⟨_, rfl, ?_⟩; (try (rw [drewN_self w17]; generalize hq_ : World.drewN w17 _ = w17; have n0_ : Aside0 (w17.heap[gb101]? = some (.cells #[.int .i64 0, .int .i64 0] 83 (0, 0))) := ⟨by rw [← hq_]; exact (bkA BK101)⟩; have n1_ : Aside0 (Below w.heap.size w w17) := ⟨by rw [← hq_]; exact (hbA HB)⟩; clear BK101 HB hq_; have BK101 := n0_; have HB := n1_; clear n0_ n1_))) | ((with_reducible refine gate_callee (f := 67) rfl ?_); refine glE (some 20) rfl rfl Tryz.func67 (by kernel_rfl) rfl #[.int .u32 t102] rfl ?_; (with_reducible refine (agateref06_whole.calls t102 t103 true _ A11.out).mono ?_); rintro e w' ⟨rfl, ⟨nd, rfl⟩⟩; refine ⟨_, rfl, ?_⟩; (try (rw [drewN_self w17]; generalize hq_ : World.drewN w17 _ = w17; have n0_ : Aside0 (w17.heap[gb101]? = some (.cells #[.int .i64 0, .int .i64 0] 83 (0, 0))) := ⟨by rw [← hq_]; exact (bkA BK101)⟩; have n1_ : Aside0 (Below w.heap.size w w17) := ⟨by rw [← hq_]; exact (hbA HB)⟩; clear BK101 HB hq_; have BK101 := n0_; have HB := n1_; clear n0_ n1_))) | ((with_reducible refine gate_callee (f := 68) rfl ?_); refine glE (some 26) rfl rfl Tryz.func68 (by kernel_rfl) rfl #[.string (a0.extract 4 a0.size)] rfl ?_; (with_reducible refine (agateref06_word_s.calls (a0.extract 4 a0.size) t105 _ A13.out).mono ?_); rintro e w' ⟨rfl, ⟨nd, rfl⟩⟩; refine ⟨_, rfl, ?_⟩; (try (rw [drewN_self w17]; generalize hq_ : World.drewN w17 _ = w17; have n0_ : Aside0 (w17.heap[gb101]? = some (.cells #[.int .i64 0, .int .i64 0] 83 (0, 0))) := ⟨by rw [← hq_]; exact (bkA BK101)⟩; have n1_ : Aside0 (Below w.heap.size w w17) := ⟨by rw [← hq_]; exact (hbA HB)⟩; clear BK101 HB hq_; have BK101 := n0_; have HB := n1_; clear n0_ n1_))) | ((with_reducible refine gate_callee (f := 67) rfl ?_); refine glE (some 27) rfl rfl Tryz.func67 (by kernel_rfl) rfl #[.int .u32 t105] rfl ?_; (with_reducible refine (agateref06_whole.calls t105 t106 true _ A14.out).mono ?_); rintro e w' ⟨rfl, ⟨nd, rfl⟩⟩; refine ⟨_, rfl, ?_⟩; (try (rw [drewN_self w17]; generalize hq_ : World.drewN w17 _ = w17; have n0_ : Aside0 (w17.heap[gb101]? = some (.cells #[.int .i64 0, .int .i64 0] 83 (0, 0))) := ⟨by rw [← hq_]; exact (bkA BK101)⟩; have n1_ : Aside0 (Below w.heap.size w w17) := ⟨by rw [← hq_]; exact (hbA HB)⟩; clear BK101 HB hq_; have BK101 := n0_; have HB := n1_; clear n0_ n1_)); obtain ⟨hcz18_0, hcz18_1⟩ := cz2 BK101; have hfz18_0 := fz BK101 0; have hfz18_1 := blk_frozen BK101.out 1))
     refine bodyPost_ret (results_ct rfl _ _ gb101 83 #[.int .i64 t103, .int .i64 t106] (0, 0) _ rfl (bkW BK101) Tryz.underlying83 rfl (by kernel_rfl)) rfl ?_
     exact ⟨cl3, hbA HB⟩
    ·
     replace c16 := Bool.eq_false_iff.mpr c16; subst c16; have H1 : (some (0, 0, 17)) = some (r1, r2, r3) := by rw [if_neg (show ¬ (false = true) by decide)] at H; exact H
     clear H; have H := H1; clear H1
     simp only [Option.some.injEq, Prod.mk.injEq] at H
     obtain ⟨rfl, rfl, rfl⟩ := H
     go_enter Tryz.func33, Tryz.ntmps33
     go_wp2_with (first | ((with_reducible refine gate_dst (N := 2) rfl ?_); refine boxE (N := 2) (cs := #[.int .i64 0, .int .i64 0]) (t := 83) ?_; intro gb101 hg w19 hbox hb; have BK101 := mk0 hbox; have GW101 := gwS HB hg; have GE101 := gwS HB hg; replace HB := hbS HB hb; clear hb hbox hg) | ((with_reducible refine gate_callee (f := 68) rfl ?_); refine glE (some 19) rfl rfl Tryz.func68 (by kernel_rfl) rfl #[.string (a0.extract 0 4)] rfl ?_; (with_reducible refine (agateref06_word_s.calls (a0.extract 0 4) t102 _ A10.out).mono ?_); rintro e w' ⟨rfl, ⟨nd, rfl⟩⟩; refine ⟨_, rfl, ?_⟩; (try (rw [drewN_self w19]; generalize hq_ : World.drewN w19 _ = w19; have n0_ : Aside0 (w19.heap[gb101]? = some (.cells #[.int .i64 0, .int .i64 0] 83 (0, 0))) := ⟨by rw [← hq_]; exact (bkA BK101)⟩; have n1_ : Aside0 (Below w.heap.size w w19) := ⟨by rw [← hq_]; exact (hbA HB)⟩; clear BK101 HB hq_; have BK101 := n0_; have HB := n1_; clear n0_ n1_))) | ((with_reducible refine gate_callee (f := 67) rfl ?_); refine glE (some 20) rfl rfl Tryz.func67 (by kernel_rfl) rfl #[.int .u32 t102] rfl ?_; (with_reducible refine (agateref06_whole.calls t102 t103 true _ A11.out).mono ?_); rintro e w' ⟨rfl, ⟨nd, rfl⟩⟩; refine ⟨_, rfl, ?_⟩; (try (rw [drewN_self w19]; generalize hq_ : World.drewN w19 _ = w19; have n0_ : Aside0 (w19.heap[gb101]? = some (.cells #[.int .i64 0, .int .i64 0] 83 (0, 0))) := ⟨by rw [← hq_]; exact (bkA BK101)⟩; have n1_ : Aside0 (Below w.heap.size w w19) := ⟨by rw [← hq_]; exact (hbA HB)⟩; clear BK101 HB hq_; have BK101 := n0_; have HB := n1_; clear n0_ n1_))) | ((with_reducible refine gate_callee (f := 68) rfl ?_); refine glE (some 26) rfl rfl Tryz.func68 (by kernel_rfl) rfl #[.string (a0.extract 4 a0.size)] rfl ?_; (with_reducible refine (agateref06_word_s.calls (a0.extract 4 a0.size) t105 _ A13.out).mono ?_); rintro e w' ⟨rfl, ⟨nd, rfl⟩⟩; refine ⟨_, rfl, ?_⟩; (try (rw [drewN_self w19]; generalize hq_ : World.drewN w19 _ = w19; have n0_ : Aside0 (w19.heap[gb101]? = some (.cells #[.int .i64 0, .int .i64 0] 83 (0, 0))) := ⟨by rw [← hq_]; exact (bkA BK101)⟩; have n1_ : Aside0 (Below w.heap.size w w19) := ⟨by rw [← hq_]; exact (hbA HB)⟩; clear BK101 HB hq_; have BK101 := n0_; have HB := n1_; clear n0_ n1_))) | ((with_reducible refine gate_callee (f := 67) rfl ?_); refine glE (some 27) rfl rfl Tryz.func67 (by kernel_rfl) rfl #[.int .u32 t105] rfl ?_; (with_reducible refine (agateref06_whole.calls t105 t106 false _ A14.out).mono ?_); rintro e w' ⟨rfl, ⟨nd, rfl⟩⟩; refine ⟨_, rfl, ?_⟩; (try (rw [drewN_self w19]; generalize hq_ : World.drewN w19 _ = w19; have n0_ : Aside0 (w19.heap[gb101]? = some (.cells #[.int .i64 0, .int .i64 0] 83 (0, 0))) := ⟨by rw [← hq_]; exact (bkA BK101)⟩; have n1_ : Aside0 (Below w.heap.size w w19) := ⟨by rw [← hq_]; exact (hbA HB)⟩; clear BK101 HB hq_; have BK101 := n0_; have HB := n1_; clear n0_ n1_)); obtain ⟨hcz20_0, hcz20_1⟩ := cz2 BK101; have hfz20_0 := fz BK101 0; have hfz20_1 := blk_frozen BK101.out 1))
     refine bodyPost_ret (results_ct rfl _ _ gb101 83 #[.int .i64 0, .int .i64 0] (0, 0) _ rfl (bkW BK101) Tryz.underlying83 rfl (by kernel_rfl)) rfl ?_
     exact ⟨cl3, hbA HB⟩
   ·
    replace c15 := Bool.eq_false_iff.mpr c15; subst c15; have H1 : (some (0, 0, 17)) = some (r1, r2, r3) := by rw [if_neg (show ¬ (false = true) by decide)] at H; exact H
    clear H; have H := H1; clear H1
    simp only [Option.some.injEq, Prod.mk.injEq] at H
    obtain ⟨rfl, rfl, rfl⟩ := H
    go_enter Tryz.func33, Tryz.ntmps33
    go_wp2_with (first | ((with_reducible refine gate_dst (N := 2) rfl ?_); refine boxE (N := 2) (cs := #[.int .i64 0, .int .i64 0]) (t := 83) ?_; intro gb101 hg w21 hbox hb; have BK101 := mk0 hbox; have GW101 := gwS HB hg; have GE101 := gwS HB hg; replace HB := hbS HB hb; clear hb hbox hg) | ((with_reducible refine gate_callee (f := 68) rfl ?_); refine glE (some 19) rfl rfl Tryz.func68 (by kernel_rfl) rfl #[.string (a0.extract 0 4)] rfl ?_; (with_reducible refine (agateref06_word_s.calls (a0.extract 0 4) t102 _ A10.out).mono ?_); rintro e w' ⟨rfl, ⟨nd, rfl⟩⟩; refine ⟨_, rfl, ?_⟩; (try (rw [drewN_self w21]; generalize hq_ : World.drewN w21 _ = w21; have n0_ : Aside0 (w21.heap[gb101]? = some (.cells #[.int .i64 0, .int .i64 0] 83 (0, 0))) := ⟨by rw [← hq_]; exact (bkA BK101)⟩; have n1_ : Aside0 (Below w.heap.size w w21) := ⟨by rw [← hq_]; exact (hbA HB)⟩; clear BK101 HB hq_; have BK101 := n0_; have HB := n1_; clear n0_ n1_))) | ((with_reducible refine gate_callee (f := 67) rfl ?_); refine glE (some 20) rfl rfl Tryz.func67 (by kernel_rfl) rfl #[.int .u32 t102] rfl ?_; (with_reducible refine (agateref06_whole.calls t102 t103 false _ A11.out).mono ?_); rintro e w' ⟨rfl, ⟨nd, rfl⟩⟩; refine ⟨_, rfl, ?_⟩; (try (rw [drewN_self w21]; generalize hq_ : World.drewN w21 _ = w21; have n0_ : Aside0 (w21.heap[gb101]? = some (.cells #[.int .i64 0, .int .i64 0] 83 (0, 0))) := ⟨by rw [← hq_]; exact (bkA BK101)⟩; have n1_ : Aside0 (Below w.heap.size w w21) := ⟨by rw [← hq_]; exact (hbA HB)⟩; clear BK101 HB hq_; have BK101 := n0_; have HB := n1_; clear n0_ n1_))) | ((with_reducible refine gate_callee (f := 68) rfl ?_); refine glE (some 26) rfl rfl Tryz.func68 (by kernel_rfl) rfl #[.string (a0.extract 4 a0.size)] rfl ?_; (with_reducible refine (agateref06_word_s.calls (a0.extract 4 a0.size) t105 _ A13.out).mono ?_); rintro e w' ⟨rfl, ⟨nd, rfl⟩⟩; refine ⟨_, rfl, ?_⟩; (try (rw [drewN_self w21]; generalize hq_ : World.drewN w21 _ = w21; have n0_ : Aside0 (w21.heap[gb101]? = some (.cells #[.int .i64 0, .int .i64 0] 83 (0, 0))) := ⟨by rw [← hq_]; exact (bkA BK101)⟩; have n1_ : Aside0 (Below w.heap.size w w21) := ⟨by rw [← hq_]; exact (hbA HB)⟩; clear BK101 HB hq_; have BK101 := n0_; have HB := n1_; clear n0_ n1_))) | ((with_reducible refine gate_callee (f := 67) rfl ?_); refine glE (some 27) rfl rfl Tryz.func67 (by kernel_rfl) rfl #[.int .u32 t105] rfl ?_; (with_reducible refine (agateref06_whole.calls t105 t106 t107 _ A14.out).mono ?_); rintro e w' ⟨rfl, ⟨nd, rfl⟩⟩; refine ⟨_, rfl, ?_⟩; (try (rw [drewN_self w21]; generalize hq_ : World.drewN w21 _ = w21; have n0_ : Aside0 (w21.heap[gb101]? = some (.cells #[.int .i64 0, .int .i64 0] 83 (0, 0))) := ⟨by rw [← hq_]; exact (bkA BK101)⟩; have n1_ : Aside0 (Below w.heap.size w w21) := ⟨by rw [← hq_]; exact (hbA HB)⟩; clear BK101 HB hq_; have BK101 := n0_; have HB := n1_; clear n0_ n1_)); obtain ⟨hcz22_0, hcz22_1⟩ := cz2 BK101; have hfz22_0 := fz BK101 0; have hfz22_1 := blk_frozen BK101.out 1))
    refine bodyPost_ret (results_ct rfl _ _ gb101 83 #[.int .i64 0, .int .i64 0] (0, 0) _ rfl (bkW BK101) Tryz.underlying83 rfl (by kernel_rfl)) rfl ?_
    exact ⟨cl3, hbA HB⟩
def agateref06_Read_s.f (a0 : ByteArray) : Option (Int × Int × Int) := some (readR a0)
theorem agateref06_Read_s.ev (a0 : ByteArray) (r) (h : agateref06_Read_s.f a0 = some r) : ∃ k : Nat, agateref06_Read.f a0 = some r := by
  refine ⟨0, ?_⟩
  rw [← h]
  unfold agateref06_Read.f agateref06_Read_s.f readR
  by_cases h1 : a0.size < 8
  · rw [if_pos (by omega), if_pos h1]
  · rw [if_neg (by omega), if_neg h1]
    by_cases h2 : a0.size > 8
    · rw [if_pos (by omega), if_pos h2]
    · rw [if_neg (by omega), if_neg h2, if_pos (by decide), if_pos (by omega)]
      have e1 : agateref06_word_s.f (a0.extract 0 4) = some (wd a0 : Int) := by
        rw [← wd_extract a0 (by omega)]
        exact if_pos (by rw [ByteArray.size_extract]; omega)
      have e2 : agateref06_word_s.f (a0.extract 4 a0.size) = some (wd (a0.extract 4 a0.size) : Int) := if_pos (by rw [ByteArray.size_extract]; omega)
      have e3 : agateref06_whole.f (wd a0 : Int) = some (wholeS (wd a0)) := by
        unfold agateref06_whole.f
        rw [if_pos (by have := wd_lt a0; omega), Int.toNat_natCast]
      have e4 : agateref06_whole.f (wd (a0.extract 4 a0.size) : Int) = some (wholeS (wd (a0.extract 4 a0.size))) := by
        unfold agateref06_whole.f
        rw [if_pos (by have := wd_lt (a0.extract 4 a0.size); omega), Int.toNat_natCast]
      rw [e1, Option.bind_some, e3, Option.bind_some, e2, Option.bind_some, e4, Option.bind_some]
      cases (wholeS (wd a0)).2 <;> cases (wholeS (wd (a0.extract 4 a0.size))).2 <;> rfl
set_option maxHeartbeats 1000000 in
theorem agateref06_Read_s.calls (a0 : ByteArray) (r1 : Int) (r2 : Int) (r3 : Int) (w : World) (h : agateref06_Read_s.f a0 = some (r1, r2, r3)) :
    Calls Tryz.prog 33 #[.string a0] w fun e w' => e = .returned (.tuple #[.agg #[.int .i64 r1, .int .i64 r2], .int .i64 r3]) ∧ Below w.heap.size w w' := by
  obtain ⟨k, hk⟩ := agateref06_Read_s.ev a0 _ h
  exact agateref06_Read.calls a0 r1 r2 r3 w hk
def agateref07_Name.l0 : Nat → ByteArray → Int → Option (Bool)
  | 0, _, _ => none
  | k + 1, x0, x3 => if x3 < (x0.size : Int) then (if 0 ≤ x3 then (if (bt x0 x3) < 33 then (some false) else (if (bt x0 x3) > 126 then (some false) else (agateref07_Name.l0 k x0 (wrap64 (x3 + 1))))) else (none)) else (if (x0.size : Int) ≥ 1 then (some (decide ((x0.size : Int) ≤ 64))) else (some false))
def agateref07_Name.f (k : Nat) (a0 : ByteArray) : Option (Bool) := agateref07_Name.l0 k a0 0
set_option maxHeartbeats 8000000 in
set_option maxRecDepth 100000 in
theorem agateref07_Name.calls (k : Nat) (a0 : ByteArray) (r : Bool) (w : World) (h : agateref07_Name.f k a0 = some r) :
    Calls Tryz.prog 28 #[.string a0] w fun e w' => e = .returned (.bool r) ∧ Drawn0 w w' := by
  have H : (agateref07_Name.l0 k a0 0) = some r := h; clear h; have H' := mk0 H; clear H
  go_enter Tryz.func28, Tryz.ntmps28
  go_wp2
  go_loopg [3] k (fun kq v3 w' => ∃ (x3_1 : Int), v3 = .int .i64 x3_1 ∧ Aside0 (agateref07_Name.l0 kq a0 x3_1 = some r) ∧ Aside0 (kq ≤ k) ∧ Drawn0 w w')
  case atStart => exact ⟨(0), cl0, H', ⟨Nat.le_refl _⟩, by repeat (first | exact Drawn0.refl _ | apply Drawn0.step)⟩
  case round =>
    clear H'; obtain ⟨x3_1, rfl, HA, HK1, ⟨m1, rfl⟩⟩ := hrel
    cases gk with
    | zero => exact absurd HA.out (by simp [agateref07_Name.l0])
    | succ k1 =>
      have H := HA.out; clear HA
      simp only [agateref07_Name.l0] at H
      by_cases c2 : x3_1 < (a0.size : Int)
      · rw [if_pos c2] at H
        have c2b0 := decide_eq_true c2; clear c2
        by_cases c3 : 0 ≤ x3_1
        · rw [if_pos c3] at H
          have c3b0 := decide_eq_true c3; clear c3
          by_cases c5 : (bt a0 x3_1) < 33
          · rw [if_pos c5] at H
            have c5b0 := decide_eq_true c5; clear c5; obtain rfl := Option.some.inj H; have p4 : 0 ≤ (x3_1 : Int) := ofd; have q4 : x3_1 < (a0.size : Int) := ofd; have hx4 := bt_at a0 x3_1; replace p4 := eq_true p4; replace q4 := eq_true q4
            go_wp2
            go_ret
            exact ⟨by first | rfl | (simp; done) | (simp [*]; done), by repeat (first | exact Drawn0.refl _ | apply Drawn0.step)⟩
          · rw [if_neg c5] at H
            have c5b0 := decide_eq_false c5; clear c5
            by_cases c7 : (bt a0 x3_1) > 126
            · rw [if_pos c7] at H
              have c7b0 := decide_eq_true c7; clear c7; obtain rfl := Option.some.inj H; have p4 : 0 ≤ (x3_1 : Int) := ofd; have q4 : x3_1 < (a0.size : Int) := ofd; have hx4 := bt_at a0 x3_1; replace p4 := eq_true p4; replace q4 := eq_true q4; have p6 : 0 ≤ (x3_1 : Int) := ofd; have q6 : x3_1 < (a0.size : Int) := ofd; have hx6 := bt_at a0 x3_1; replace p6 := eq_true p6; replace q6 := eq_true q6
              go_wp2
              go_ret
              exact ⟨by first | rfl | (simp; done) | (simp [*]; done), by repeat (first | exact Drawn0.refl _ | apply Drawn0.step)⟩
            · rw [if_neg c7] at H
              have c7b0 := decide_eq_false c7; clear c7; have H' := mk0 H; clear H; have p4 : 0 ≤ (x3_1 : Int) := ofd; have q4 : x3_1 < (a0.size : Int) := ofd; have hx4 := bt_at a0 x3_1; replace p4 := eq_true p4; replace q4 := eq_true q4; have p6 : 0 ≤ (x3_1 : Int) := ofd; have q6 : x3_1 < (a0.size : Int) := ofd; have hx6 := bt_at a0 x3_1; replace p6 := eq_true p6; replace q6 := eq_true q6
              go_wp2
              go_roundg k1
              case measure => have := HK1.out; omega
              case rel => exact ⟨(wrap64 (x3_1 + 1)), cl0, H', cl2 HK1, by repeat (first | exact Drawn0.refl _ | apply Drawn0.step)⟩
        · rw [if_neg c3] at H; exact ne0 H
      · rw [if_neg c2] at H
        have c2b0 := decide_eq_false c2; clear c2
        by_cases c8 : (a0.size : Int) ≥ 1
        · rw [if_pos c8] at H
          have c8b0 := decide_eq_true c8; have c8b1 : decide (1 ≤ a0.size) = true := decide_eq_true (by omega); clear c8; obtain rfl := Option.some.inj H
          go_wp2
          go_ret
          exact ⟨by first | rfl | (simp; done) | (simp [*]; done), by repeat (first | exact Drawn0.refl _ | apply Drawn0.step)⟩
        · rw [if_neg c8] at H
          have c8b0 := decide_eq_false c8; have c8b1 : decide (1 ≤ a0.size) = false := decide_eq_false (by omega); clear c8; obtain rfl := Option.some.inj H
          go_wp2
          go_ret
          exact ⟨by first | rfl | (simp; done) | (simp [*]; done), by repeat (first | exact Drawn0.refl _ | apply Drawn0.step)⟩
def agateref07_Name_s.f (a0 : ByteArray) : Option Bool := if a0.size ≤ 140737488351232 then some (nameR a0) else none
theorem agateref07_Name_eval (s : ByteArray) (hs : s.size ≤ 140737488351232) (d : Nat) : ∀ (k i : Nat), s.size - i = d → i ≤ s.size → d < k →
    agateref07_Name.l0 k s (i : Int) = some (((ns s).drop i).all (fun c => decide (33 ≤ c ∧ c ≤ 126)) && decide (1 ≤ s.size ∧ s.size ≤ 64)) := by
  induction d with
  | zero =>
    intro k i hd hi hk
    obtain ⟨k, rfl⟩ : ∃ m, k = m + 1 := ⟨k - 1, by omega⟩
    simp only [agateref07_Name.l0]
    rw [if_neg (by omega), ns_drop_end s i (by omega)]
    by_cases h0 : (s.size : Int) ≥ 1
    · rw [if_pos h0]
      simp only [List.all_nil, Bool.true_and]
      congr 1
      exact decide_eq_decide.2 ⟨fun h => ⟨by omega, by omega⟩, fun h => by omega⟩
    · rw [if_neg h0, show decide (1 ≤ s.size ∧ s.size ≤ 64) = false from decide_eq_false (by omega)]; rfl
  | succ d ih =>
    intro k i hd hi hk
    obtain ⟨k, rfl⟩ : ∃ m, k = m + 1 := ⟨k - 1, by omega⟩
    have hlt : i < s.size := by omega
    have hb : bt s (i : Int) = ((s[i]'hlt).toNat : Int) := bt_ns s i hlt
    simp only [agateref07_Name.l0]
    rw [if_pos (by omega), if_pos (by omega), hb, ns_drop s i hlt, List.all_cons]
    by_cases h1 : ((s[i]'hlt).toNat : Int) < 33
    · rw [if_pos h1, show decide (33 ≤ (s[i]'hlt).toNat ∧ (s[i]'hlt).toNat ≤ 126) = false from decide_eq_false (by omega)]; rfl
    · rw [if_neg h1]
      by_cases h2 : ((s[i]'hlt).toNat : Int) > 126
      · rw [if_pos h2, show decide (33 ≤ (s[i]'hlt).toNat ∧ (s[i]'hlt).toNat ≤ 126) = false from decide_eq_false (by omega)]; rfl
      · rw [if_neg h2, show decide (33 ≤ (s[i]'hlt).toNat ∧ (s[i]'hlt).toNat ≤ 126) = true from decide_eq_true (by omega), Bool.true_and, wrap64_id (by omega) (by omega)]
        exact ih k (i + 1) (by omega) (by omega) (by omega)
theorem agateref07_Name_s.ev (a0 : ByteArray) (r) (h : agateref07_Name_s.f a0 = some r) : ∃ k, agateref07_Name.f k a0 = some r := by
  unfold agateref07_Name_s.f at h
  split at h
  · rename_i hs
    have := agateref07_Name_eval a0 hs a0.size (a0.size + 1) 0 (by omega) (by omega) (by omega)
    rw [List.drop_zero] at this
    exact ⟨a0.size + 1, this.trans h⟩
  · cases h
set_option maxHeartbeats 1000000 in
theorem agateref07_Name_s.calls (a0 : ByteArray) (r : Bool) (w : World) (h : agateref07_Name_s.f a0 = some r) :
    Calls Tryz.prog 28 #[.string a0] w fun e w' => e = .returned (.bool r) ∧ Drawn0 w w' := by
  obtain ⟨k, hk⟩ := agateref07_Name_s.ev a0 _ h
  exact agateref07_Name.calls k a0 r w hk
end Go.Proofs.YtgmggompdidcoaaGreatDoor.X
namespace Go.Proofs.YtgmggompdidcoaaGreatDoor.X
open Go.RowKit Go.Proofs.YtgmggompdidcoaaGreatDoorW.PrintWords Go.Proofs.YtgmggompdidcoaaGreatDoorW.PrintLast Go.Proofs.YtgmggompdidcoaaGreatDoorW.PrintMore
attribute [local go_sem] max2_int min2_int max_two min_two max_three min_three max_four min_four
set_option linter.unusedVariables false
set_option linter.unusedSimpArgs false
mutual
def agateref07_Check.l0 : Nat → Int → Int → ByteArray → Int → List Int → ByteArray → Option (Int)
 | 0, _, _, _, _, _, _ => none
 | k + 1, x4, x6, x102000, x102001, x102002, x102003 => if x6 < x4 then (if x102001 = 9 then (if 0 ≤ x6 then (if x6 < (x102003.size : Int) then (agateref07_Check.j1 k x4 x6 (decide ((bt x102003 x6) > 1)) x102000 x102001 x102002 x102003) else (none)) else (none)) else (agateref07_Check.j1 k x4 x6 false x102000 x102001 x102002 x102003)) else (some 0)
def agateref07_Check.j1 : Nat → Int → Int → Bool → ByteArray → Int → List Int → ByteArray → Option (Int)
 | 0, _, _, _, _, _, _, _ => none
 | k + 1, x4, x6, x48, x102000, x102001, x102002, x102003 => if x48 = true then (some 17) else (if x102001 = 14 then (if 0 ≤ (wrap64 (8 * x6)) then (if (wrap64 (8 * x6)) ≤ (wrap64 ((wrap64 (8 * x6)) + 8)) then (if (wrap64 ((wrap64 (8 * x6)) + 8)) ≤ (x102003.size : Int) then ((agateref06_Read_s.f (x102003.extract ((wrap64 (8 * x6)) : Int).toNat ((wrap64 ((wrap64 (8 * x6)) + 8)) : Int).toNat)).bind fun bt106 => (if bt106.2.2 = 0 then (agateref07_Check.l0 k x4 (wrap64 (x6 + 1)) x102000 x102001 x102002 x102003) else (some 17))) else (none)) else (none)) else (none)) else (agateref07_Check.l0 k x4 (wrap64 (x6 + 1)) x102000 x102001 x102002 x102003))
end
def agateref07_Check.f (k : Nat) (a0_0 : ByteArray) (a0_1 : Int) (l0_2 : List Int) (a0_3 : ByteArray) : Option (Int) := (agateref07_Name_s.f a0_0).bind fun t102 => (if t102 = true then ((agateref04_Size_s.f a0_1).bind fun t103 => (if t103 = 0 then (some 5) else ((agateref05_Size_s.f l0_2).bind fun bt104 => (if bt104.2 = 0 then (if (a0_3.size : Int) = (wrap64 (bt104.1 * t103)) then (agateref07_Check.l0 k bt104.1 0 a0_0 a0_1 l0_2 a0_3) else (some 19)) else (some bt104.2))))) else (some 8))
set_option maxHeartbeats 8000000 in
set_option maxRecDepth 100000 in
theorem agateref07_Check.calls (k : Nat) (a0_0 : ByteArray) (a0_1 : Int) (A0_2 : Option Addr) (c0_2 : Nat) (l0_2 : List Int) (a0_3 : ByteArray) (r : Int) (w : World) (hr0_2 : Kd.C (Kd.int .i64) w A0_2 l0_2.length l0_2) (hc0_2 : l0_2.length ≤ c0_2) (h : agateref07_Check.f k a0_0 a0_1 l0_2 a0_3 = some r) :
  Calls Tryz.prog 11 #[.agg #[.string a0_0, .int .i64 a0_1, .slice A0_2 l0_2.length c0_2, .string a0_3]] w fun e w' => e = .returned (.int .i64 r) ∧ Below w.heap.size w w' := by
 have hu38 := Tryz.underlying38; have hu83 := Tryz.underlying83; have HR0_2 := mk0 hr0_2; have HC0_2 := mk0 hc0_2; clear hr0_2 hc0_2; have HB := mk0 (Below.refl w.heap.size w); have H : ((agateref07_Name_s.f a0_0).bind fun t102 => (if t102 = true then ((agateref04_Size_s.f a0_1).bind fun t103 => (if t103 = 0 then (some 5) else ((agateref05_Size_s.f l0_2).bind fun bt104 => (if bt104.2 = 0 then (if (a0_3.size : Int) = (wrap64 (bt104.1 * t103)) then (agateref07_Check.l0 k bt104.1 0 a0_0 a0_1 l0_2 a0_3) else (some 19)) else (some bt104.2))))) else (some 8))) = some r := h; clear h; replace H := bnd H; obtain ⟨t102, A2, H⟩ := H
 by_cases c3 : t102 = true
 ·
  subst c3; have H1 : ((agateref04_Size_s.f a0_1).bind fun t103 => (if t103 = 0 then (some 5) else ((agateref05_Size_s.f l0_2).bind fun bt104 => (if bt104.2 = 0 then (if (a0_3.size : Int) = (wrap64 (bt104.1 * t103)) then (agateref07_Check.l0 k bt104.1 0 a0_0 a0_1 l0_2 a0_3) else (some 19)) else (some bt104.2))))) = some r := by rw [if_pos rfl] at H; exact H
  clear H; have H := H1; clear H1; replace H := bnd H; obtain ⟨t103, A4, H⟩ := H
  by_cases c5 : t103 = 0
  ·
   rw [if_pos c5] at H; have c5b0 := beq_iff_eq.mpr c5; have c5b1 := bne_eq_false_iff_eq.mpr c5; clear c5; obtain rfl := Option.some.inj H
   go_enter Tryz.func11, Tryz.ntmps11
   go_wp2_with (first | ((with_reducible refine gate_dst (N := 1) rfl ?_); refine boxE (N := 1) (cs := #[.string a0_0, .int .i64 a0_1, .slice A0_2 l0_2.length c0_2, .string a0_3]) (t := 38) ?_; intro gb101 hg w6 hbox hb; have BK101 := mk0 hbox; have GW101 := gwS HB hg; have GE101 := gwS HB hg; replace HB := hbS HB hb; clear hb hbox hg; obtain ⟨hcz7_0, hcz7_1, hcz7_2, hcz7_3⟩ := cz4 BK101; have hfz7_0 := fz BK101 0; have hfz7_1 := fz BK101 1; have hfz7_2 := fz BK101 2; have hfz7_3 := fz BK101 3) | ((with_reducible refine gate_callee (f := 28) rfl ?_); refine glE (some 11) rfl rfl Tryz.func28 (by kernel_rfl) rfl #[.string a0_0] rfl ?_; (with_reducible refine (agateref07_Name_s.calls a0_0 true _ A2.out).mono ?_); rintro e w' ⟨rfl, ⟨nd, rfl⟩⟩; refine ⟨_, rfl, ?_⟩) | ((with_reducible refine gate_callee (f := 29) rfl ?_); refine glE (some 15) rfl rfl Tryz.func29 (by kernel_rfl) rfl #[.int .i64 a0_1] rfl ?_; (with_reducible refine (agateref04_Size_s.calls a0_1 t103 _ A4.out).mono ?_); rintro e w' ⟨rfl, ⟨nd, rfl⟩⟩; refine ⟨_, rfl, ?_⟩))
   go_ret
   exact ⟨cl3, hbA HB⟩
  ·
   rw [if_neg c5] at H; have c5b0 := beq_eq_false_iff_ne.mpr c5; have c5b1 := bne_iff_ne.mpr c5; replace H := Option.bind_eq_some_iff.mp H; obtain ⟨⟨t104, t105⟩, A80, H⟩ := H; replace H : (if t105 = 0 then (if (a0_3.size : Int) = (wrap64 (t104 * t103)) then (agateref07_Check.l0 k t104 0 a0_0 a0_1 l0_2 a0_3) else (some 19)) else (some t105)) = some r := H; have A8 := mk0 A80; clear A80
   by_cases c9 : t105 = 0
   ·
    rw [if_pos c9] at H; have c9b0 := beq_iff_eq.mpr c9; have c9b1 := bne_eq_false_iff_eq.mpr c9; clear c9
    by_cases c10 : (a0_3.size : Int) = (wrap64 (t104 * t103))
    ·
     rw [if_pos c10] at H; have c10b0 := beq_iff_eq.mpr c10; have c10b1 := bne_eq_false_iff_eq.mpr c10; clear c10; have H' := mk0 H; clear H
     go_enter Tryz.func11, Tryz.ntmps11
     go_wp2_with (first | ((with_reducible refine gate_dst (N := 1) rfl ?_); refine boxE (N := 1) (cs := #[.string a0_0, .int .i64 a0_1, .slice A0_2 l0_2.length c0_2, .string a0_3]) (t := 38) ?_; intro gb101 hg w11 hbox hb; have BK101 := mk0 hbox; have GW101 := gwS HB hg; have GE101 := gwS HB hg; replace HB := hbS HB hb; clear hb hbox hg; obtain ⟨hcz12_0, hcz12_1, hcz12_2, hcz12_3⟩ := cz4 BK101; have hfz12_0 := fz BK101 0; have hfz12_1 := fz BK101 1; have hfz12_2 := fz BK101 2; have hfz12_3 := fz BK101 3) | ((with_reducible refine gate_callee (f := 28) rfl ?_); refine glE (some 11) rfl rfl Tryz.func28 (by kernel_rfl) rfl #[.string a0_0] rfl ?_; (with_reducible refine (agateref07_Name_s.calls a0_0 true _ A2.out).mono ?_); rintro e w' ⟨rfl, ⟨nd, rfl⟩⟩; refine ⟨_, rfl, ?_⟩) | ((with_reducible refine gate_callee (f := 29) rfl ?_); refine glE (some 15) rfl rfl Tryz.func29 (by kernel_rfl) rfl #[.int .i64 a0_1] rfl ?_; (with_reducible refine (agateref04_Size_s.calls a0_1 t103 _ A4.out).mono ?_); rintro e w' ⟨rfl, ⟨nd, rfl⟩⟩; refine ⟨_, rfl, ?_⟩) | ((with_reducible refine gate_callee (f := 30) rfl ?_); refine glE (some 21) rfl rfl Tryz.func30 (by kernel_rfl) rfl #[.slice A0_2 l0_2.length c0_2] rfl ?_; (with_reducible refine (agateref05_Size_s.calls _ _ l0_2 t104 t105 _ ?side1 ?side2 A8.out).mono ?_); (case side1 => repeat (first | exact (Kd.C_below HR0_2.out (hbA HB)) | (with_reducible refine Kd.C_alloc ?_ _) | (with_reducible refine Kd.C_drewN ?_ _) | (with_reducible refine Kd.C_drew ?_))); (case side2 => exact HC0_2.out); rintro e w' ⟨rfl, ⟨nd, rfl⟩⟩; refine ⟨_, rfl, ?_⟩))
     go_loopg [6] k (fun kq v6 w' => ∃ (x6_1 : Int), v6 = .int .i64 x6_1 ∧ Aside0 (agateref07_Check.l0 kq t104 x6_1 a0_0 a0_1 l0_2 a0_3 = some r) ∧ Aside0 (kq ≤ k) ∧ Aside0 (w'.heap[gb101]? = some (.cells #[.string a0_0, .int .i64 a0_1, (.slice A0_2 l0_2.length c0_2), .string a0_3] 38 (0, 0))) ∧ Aside0 (Below w.heap.size w w'))
     case atStart => exact ⟨(0), cl0, H', ⟨Nat.le_refl _⟩, ⟨bkA BK101⟩, ⟨hbA HB⟩⟩
     case round =>
      clear H'; obtain ⟨x6_1, rfl, HA, HK1, BK101, HB⟩ := hrel
      cases gk with
      | zero => exact absurd HA.out (by simp [agateref07_Check.l0])
      | succ k1 =>
       have H := HA.out; clear HA
       simp only [agateref07_Check.l0] at H
       by_cases c13 : x6_1 < t104
       ·
        rw [if_pos c13] at H; have c13b0 := decide_eq_true c13; clear c13; have HC14 := mk0 H; clear H
        go_upto_region 14 with (fail)
        go_cut [48] (fun v48 wc => ∃ (kq : Nat) (x48_13 : Bool), v48 = .bool x48_13 ∧ Aside0 (agateref07_Check.j1 kq t104 x6_1 x48_13 a0_0 a0_1 l0_2 a0_3 = some r) ∧ Aside0 (kq ≤ k1) ∧ Aside0 (wc.heap[gb101]? = some (.cells #[.string a0_0, .int .i64 a0_1, (.slice A0_2 l0_2.length c0_2), .string a0_3] 38 (0, 0))) ∧ Aside0 (Below w.heap.size w wc))
        case first =>
         have H := HC14.out; clear HC14
         by_cases c15 : a0_1 = 9
         ·
          rw [if_pos c15] at H; have c15b0 := beq_iff_eq.mpr c15; have c15b1 := bne_eq_false_iff_eq.mpr c15; clear c15
          (first | rw [c15b0] | (simp only [i64_w, i32_w]; rw [c15b0]) | skip)
          replace H := ifS H; obtain ⟨c16, H⟩ := H; have c16b0 := decide_eq_true c16; clear c16; replace H := ifS H; obtain ⟨c17, H⟩ := H; have c17b0 := decide_eq_true c17; clear c17; have H' := mk0 H; clear H; obtain ⟨hcz19_0, hcz19_1, hcz19_2, hcz19_3⟩ := cz4 BK101; have hfz19_0 := fz BK101 0; have hfz19_1 := fz BK101 1; have hfz19_2 := fz BK101 2; have hfz19_3 := fz BK101 3; have p18 : 0 ≤ (x6_1 : Int) := ofd; have q18 : x6_1 < (a0_3.size : Int) := ofd; have hx18 := bt_at a0_3 x6_1; replace p18 := eq_true p18; replace q18 := eq_true q18
          go_wp2
          go_meet
          case rel => exact ⟨_, (decide ((bt a0_3 x6_1) > 1)), cl0, H', ⟨by have := HK1.out; first | omega | exact Nat.le_refl _⟩, ⟨bkA BK101⟩, ⟨hbA HB⟩⟩
         ·
          rw [if_neg c15] at H; have c15b0 := beq_eq_false_iff_ne.mpr c15; have c15b1 := bne_iff_ne.mpr c15
          (first | rw [c15b0] | (simp only [i64_w, i32_w]; rw [c15b0]) | skip)
          have H' := mk0 H; clear H; obtain ⟨hcz20_0, hcz20_1, hcz20_2, hcz20_3⟩ := cz4 BK101; have hfz20_0 := fz BK101 0; have hfz20_1 := fz BK101 1; have hfz20_2 := fz BK101 2; have hfz20_3 := fz BK101 3
          go_wp2
          go_meet
          case rel => exact ⟨_, (false), cl0, H', ⟨by have := HK1.out; first | omega | exact Nat.le_refl _⟩, ⟨bkA BK101⟩, ⟨hbA HB⟩⟩
        case rest =>
         clear HC14; try clear c3; try clear c5; try clear c5b0; try clear c5b1; try clear c9; try clear c9b0; try clear c9b1; try clear c10; try clear c10b0; try clear c10b1; try clear c13; try clear c13b0; try clear hcz12_0; try clear hcz12_1; try clear hcz12_2; try clear hcz12_3; try clear hfz12_0; try clear hfz12_1; try clear hfz12_2; try clear hfz12_3
         obtain ⟨kq, x48_13, rfl, HA, HJ13, BK101, HB⟩ := hcut
         cases kq with
         | zero => exact absurd HA.out (by simp [agateref07_Check.j1])
         | succ kj13 =>
          have H := HA.out; clear HA
          simp only [agateref07_Check.j1] at H
          by_cases c21 : x48_13 = true
          ·
           subst c21; have H1 : (some 17) = some r := by rw [if_pos rfl] at H; exact H
           clear H; have H := H1; clear H1; obtain rfl := Option.some.inj H
           go_wp2
           go_ret
           exact ⟨cl3, hbA HB⟩
          ·
           replace c21 := Bool.eq_false_iff.mpr c21; subst c21; have H1 : (if a0_1 = 14 then (if 0 ≤ (wrap64 (8 * x6_1)) then (if (wrap64 (8 * x6_1)) ≤ (wrap64 ((wrap64 (8 * x6_1)) + 8)) then (if (wrap64 ((wrap64 (8 * x6_1)) + 8)) ≤ (a0_3.size : Int) then ((agateref06_Read_s.f (a0_3.extract ((wrap64 (8 * x6_1)) : Int).toNat ((wrap64 ((wrap64 (8 * x6_1)) + 8)) : Int).toNat)).bind fun bt106 => (if bt106.2.2 = 0 then (agateref07_Check.l0 kj13 t104 (wrap64 (x6_1 + 1)) a0_0 a0_1 l0_2 a0_3) else (some 17))) else (none)) else (none)) else (none)) else (agateref07_Check.l0 kj13 t104 (wrap64 (x6_1 + 1)) a0_0 a0_1 l0_2 a0_3)) = some r := by rw [if_neg (show ¬ (false = true) by decide)] at H; exact H
           clear H; have H := H1; clear H1
           by_cases c22 : a0_1 = 14
           ·
            rw [if_pos c22] at H; have c22b0 := beq_iff_eq.mpr c22; have c22b1 := bne_eq_false_iff_eq.mpr c22; clear c22; obtain ⟨ji23, hji23⟩ : ∃ j_ : Int, (wrap64 (8 * x6_1)) = j_ := ⟨_, rfl⟩; replace H : (if 0 ≤ (ji23) then (if (ji23) ≤ (wrap64 ((ji23) + 8)) then (if (wrap64 ((ji23) + 8)) ≤ (a0_3.size : Int) then ((agateref06_Read_s.f (a0_3.extract ((ji23) : Int).toNat ((wrap64 ((ji23) + 8)) : Int).toNat)).bind fun bt106 => (if bt106.2.2 = 0 then (agateref07_Check.l0 kj13 t104 (wrap64 (x6_1 + 1)) a0_0 a0_1 l0_2 a0_3) else (some 17))) else (none)) else (none)) else (none)) = some r := by first | (rw [hji23] at H; exact H) | (simp only [hji23] at H ⊢; exact H)
            have hji23w : (IntKind.i64.wrap (8 * x6_1)) = ji23 := (i64_w _).trans hji23; replace H := ifS H; obtain ⟨c24, H⟩ := H; have c24b0 := eq_true c24; have c24b1 := decide_eq_true c24; clear c24; replace H := ifS H; obtain ⟨c25, H⟩ := H; have c25b0 := eq_true c25; have c25b1 := decide_eq_true c25; replace H := ifS H; obtain ⟨c26, H⟩ := H; have c26b0 := eq_true c26; have c26b1 := decide_eq_true c26; replace H := Option.bind_eq_some_iff.mp H; obtain ⟨⟨t106, t107, t108⟩, A270, H⟩ := H; replace H : (if t108 = 0 then (agateref07_Check.l0 kj13 t104 (wrap64 (x6_1 + 1)) a0_0 a0_1 l0_2 a0_3) else (some 17)) = some r := H; have A27 := mk0 A270; clear A270
            by_cases c28 : t108 = 0
            ·
             rw [if_pos c28] at H; have c28b0 := beq_iff_eq.mpr c28; have c28b1 := bne_eq_false_iff_eq.mpr c28; clear c28; have H' := mk0 H; clear H; obtain ⟨hcz29_0, hcz29_1, hcz29_2, hcz29_3⟩ := cz4 BK101; have hfz29_0 := fz BK101 0; have hfz29_1 := fz BK101 1; have hfz29_2 := fz BK101 2; have hfz29_3 := fz BK101 3
             go_wp2_with (first | ((with_reducible refine gate_callee (f := 33) rfl ?_); refine goesL_ (some 61) rfl rfl Tryz.func33 (by kernel_rfl) rfl #[.string (a0_3.extract ((ji23) : Int).toNat ((wrap64 ((ji23) + 8)) : Int).toNat)] rfl (by (try simp only [List.map_toArray, List.map_cons, List.map_nil]); first | done | (simp only [hji23]; rfl) | rfl | (simp only [List.length_drop, List.length_take]; rfl)) ?_; (with_reducible refine (agateref06_Read_s.calls (a0_3.extract ((ji23) : Int).toNat ((wrap64 ((ji23) + 8)) : Int).toNat) t106 t107 t108 _ A27.out).mono ?_); rintro e w30 ⟨rfl, hb⟩; refine ⟨_, rfl, ?_⟩; replace BK101 := bkS BK101 hb; replace HB := hbS HB hb; (try clear hb)) | ((with_reducible refine gate_dst (N := 7) rfl ?_); refine boxE (N := 7) (cs := #[.int .i64 0, .int .i64 0]) (t := 83) ?_; intro gb109 hg w31 hbox hb; have BK109 := mk0 hbox; have GW109 := gwS HB hg; have GE109 := gwS HB hg; replace HB := hbS HB hb; have NB101_109 := neS BK101 hg; have NB109_101 := neT BK101 hg; replace BK101 := bkS BK101 hb; clear hb hbox hg; have hnb32 := NB109_101.out; have hnc32 := NB101_109.out; obtain ⟨hcz33_0, hcz33_1⟩ := cz2 BK109; have hfz33_0 := fz BK109 0; have hfz33_1 := blk_frozen BK109.out 1))
             go_roundg kj13
             case measure => have := HK1.out; have := HJ13.out; omega
             case rel => exact ⟨(wrap64 (x6_1 + 1)), cl0, H', ⟨by have := HK1.out; have := HJ13.out; omega⟩, ⟨bkW BK101⟩, ⟨hbA HB⟩⟩
            ·
             rw [if_neg c28] at H; have c28b0 := beq_eq_false_iff_ne.mpr c28; have c28b1 := bne_iff_ne.mpr c28; obtain rfl := Option.some.inj H; obtain ⟨hcz34_0, hcz34_1, hcz34_2, hcz34_3⟩ := cz4 BK101; have hfz34_0 := fz BK101 0; have hfz34_1 := fz BK101 1; have hfz34_2 := fz BK101 2; have hfz34_3 := fz BK101 3
             go_wp2_with (first | ((with_reducible refine gate_callee (f := 33) rfl ?_); refine goesL_ (some 61) rfl rfl Tryz.func33 (by kernel_rfl) rfl #[.string (a0_3.extract ((ji23) : Int).toNat ((wrap64 ((ji23) + 8)) : Int).toNat)] rfl (by (try simp only [List.map_toArray, List.map_cons, List.map_nil]); first | done | (simp only [hji23]; rfl) | rfl | (simp only [List.length_drop, List.length_take]; rfl)) ?_; (with_reducible refine (agateref06_Read_s.calls (a0_3.extract ((ji23) : Int).toNat ((wrap64 ((ji23) + 8)) : Int).toNat) t106 t107 t108 _ A27.out).mono ?_); rintro e w35 ⟨rfl, hb⟩; refine ⟨_, rfl, ?_⟩; replace BK101 := bkS BK101 hb; replace HB := hbS HB hb; (try clear hb)) | ((with_reducible refine gate_dst (N := 7) rfl ?_); refine boxE (N := 7) (cs := #[.int .i64 0, .int .i64 0]) (t := 83) ?_; intro gb109 hg w36 hbox hb; have BK109 := mk0 hbox; have GW109 := gwS HB hg; have GE109 := gwS HB hg; replace HB := hbS HB hb; have NB101_109 := neS BK101 hg; have NB109_101 := neT BK101 hg; replace BK101 := bkS BK101 hb; clear hb hbox hg; have hnb37 := NB109_101.out; have hnc37 := NB101_109.out; obtain ⟨hcz38_0, hcz38_1⟩ := cz2 BK109; have hfz38_0 := fz BK109 0; have hfz38_1 := blk_frozen BK109.out 1))
             go_ret
             exact ⟨by first | rfl | (simp [errW_none, errW_some] <;> rfl) | (simp only [← hji23]; first | rfl | (simp [errW_none, errW_some] <;> rfl)) | (simp [*, errW_none, errW_some] <;> rfl), hbA HB⟩
           ·
            rw [if_neg c22] at H; have c22b0 := beq_eq_false_iff_ne.mpr c22; have c22b1 := bne_iff_ne.mpr c22; have H' := mk0 H; clear H; obtain ⟨hcz39_0, hcz39_1, hcz39_2, hcz39_3⟩ := cz4 BK101; have hfz39_0 := fz BK101 0; have hfz39_1 := fz BK101 1; have hfz39_2 := fz BK101 2; have hfz39_3 := fz BK101 3
            go_wp2
            go_roundg kj13
            case measure => have := HK1.out; have := HJ13.out; omega
            case rel => exact ⟨(wrap64 (x6_1 + 1)), cl0, H', ⟨by have := HK1.out; have := HJ13.out; omega⟩, ⟨bkA BK101⟩, ⟨hbA HB⟩⟩
       ·
        rw [if_neg c13] at H; have c13b0 := decide_eq_false c13; clear c13; obtain rfl := Option.some.inj H
        go_wp2
        go_ret
        exact ⟨cl3, hbA HB⟩
    ·
     rw [if_neg c10] at H; have c10b0 := beq_eq_false_iff_ne.mpr c10; have c10b1 := bne_iff_ne.mpr c10; obtain rfl := Option.some.inj H
     go_enter Tryz.func11, Tryz.ntmps11
     go_wp2_with (first | ((with_reducible refine gate_dst (N := 1) rfl ?_); refine boxE (N := 1) (cs := #[.string a0_0, .int .i64 a0_1, .slice A0_2 l0_2.length c0_2, .string a0_3]) (t := 38) ?_; intro gb101 hg w40 hbox hb; have BK101 := mk0 hbox; have GW101 := gwS HB hg; have GE101 := gwS HB hg; replace HB := hbS HB hb; clear hb hbox hg; obtain ⟨hcz41_0, hcz41_1, hcz41_2, hcz41_3⟩ := cz4 BK101; have hfz41_0 := fz BK101 0; have hfz41_1 := fz BK101 1; have hfz41_2 := fz BK101 2; have hfz41_3 := fz BK101 3) | ((with_reducible refine gate_callee (f := 28) rfl ?_); refine glE (some 11) rfl rfl Tryz.func28 (by kernel_rfl) rfl #[.string a0_0] rfl ?_; (with_reducible refine (agateref07_Name_s.calls a0_0 true _ A2.out).mono ?_); rintro e w' ⟨rfl, ⟨nd, rfl⟩⟩; refine ⟨_, rfl, ?_⟩) | ((with_reducible refine gate_callee (f := 29) rfl ?_); refine glE (some 15) rfl rfl Tryz.func29 (by kernel_rfl) rfl #[.int .i64 a0_1] rfl ?_; (with_reducible refine (agateref04_Size_s.calls a0_1 t103 _ A4.out).mono ?_); rintro e w' ⟨rfl, ⟨nd, rfl⟩⟩; refine ⟨_, rfl, ?_⟩) | ((with_reducible refine gate_callee (f := 30) rfl ?_); refine glE (some 21) rfl rfl Tryz.func30 (by kernel_rfl) rfl #[.slice A0_2 l0_2.length c0_2] rfl ?_; (with_reducible refine (agateref05_Size_s.calls _ _ l0_2 t104 t105 _ ?side1 ?side2 A8.out).mono ?_); (case side1 => repeat (first | exact (Kd.C_below HR0_2.out (hbA HB)) | (with_reducible refine Kd.C_alloc ?_ _) | (with_reducible refine Kd.C_drewN ?_ _) | (with_reducible refine Kd.C_drew ?_))); (case side2 => exact HC0_2.out); rintro e w' ⟨rfl, ⟨nd, rfl⟩⟩; refine ⟨_, rfl, ?_⟩))
     go_ret
     exact ⟨cl3, hbA HB⟩
   ·
    rw [if_neg c9] at H; have c9b0 := beq_eq_false_iff_ne.mpr c9; have c9b1 := bne_iff_ne.mpr c9; obtain rfl := Option.some.inj H
    go_enter Tryz.func11, Tryz.ntmps11
    go_wp2_with (first | ((with_reducible refine gate_dst (N := 1) rfl ?_); refine boxE (N := 1) (cs := #[.string a0_0, .int .i64 a0_1, .slice A0_2 l0_2.length c0_2, .string a0_3]) (t := 38) ?_; intro gb101 hg w42 hbox hb; have BK101 := mk0 hbox; have GW101 := gwS HB hg; have GE101 := gwS HB hg; replace HB := hbS HB hb; clear hb hbox hg; obtain ⟨hcz43_0, hcz43_1, hcz43_2, hcz43_3⟩ := cz4 BK101; have hfz43_0 := fz BK101 0; have hfz43_1 := fz BK101 1; have hfz43_2 := fz BK101 2; have hfz43_3 := fz BK101 3) | ((with_reducible refine gate_callee (f := 28) rfl ?_); refine glE (some 11) rfl rfl Tryz.func28 (by kernel_rfl) rfl #[.string a0_0] rfl ?_; (with_reducible refine (agateref07_Name_s.calls a0_0 true _ A2.out).mono ?_); rintro e w' ⟨rfl, ⟨nd, rfl⟩⟩; refine ⟨_, rfl, ?_⟩) | ((with_reducible refine gate_callee (f := 29) rfl ?_); refine glE (some 15) rfl rfl Tryz.func29 (by kernel_rfl) rfl #[.int .i64 a0_1] rfl ?_; (with_reducible refine (agateref04_Size_s.calls a0_1 t103 _ A4.out).mono ?_); rintro e w' ⟨rfl, ⟨nd, rfl⟩⟩; refine ⟨_, rfl, ?_⟩) | ((with_reducible refine gate_callee (f := 30) rfl ?_); refine glE (some 21) rfl rfl Tryz.func30 (by kernel_rfl) rfl #[.slice A0_2 l0_2.length c0_2] rfl ?_; (with_reducible refine (agateref05_Size_s.calls _ _ l0_2 t104 t105 _ ?side1 ?side2 A8.out).mono ?_); (case side1 => repeat (first | exact (Kd.C_below HR0_2.out (hbA HB)) | (with_reducible refine Kd.C_alloc ?_ _) | (with_reducible refine Kd.C_drewN ?_ _) | (with_reducible refine Kd.C_drew ?_))); (case side2 => exact HC0_2.out); rintro e w' ⟨rfl, ⟨nd, rfl⟩⟩; refine ⟨_, rfl, ?_⟩))
    go_ret
    exact ⟨cl3, hbA HB⟩
 ·
  replace c3 := Bool.eq_false_iff.mpr c3; subst c3; have H1 : (some 8) = some r := by rw [if_neg (show ¬ (false = true) by decide)] at H; exact H
  clear H; have H := H1; clear H1; obtain rfl := Option.some.inj H
  go_enter Tryz.func11, Tryz.ntmps11
  go_wp2_with (first | ((with_reducible refine gate_dst (N := 1) rfl ?_); refine boxE (N := 1) (cs := #[.string a0_0, .int .i64 a0_1, .slice A0_2 l0_2.length c0_2, .string a0_3]) (t := 38) ?_; intro gb101 hg w44 hbox hb; have BK101 := mk0 hbox; have GW101 := gwS HB hg; have GE101 := gwS HB hg; replace HB := hbS HB hb; clear hb hbox hg; obtain ⟨hcz45_0, hcz45_1, hcz45_2, hcz45_3⟩ := cz4 BK101; have hfz45_0 := fz BK101 0; have hfz45_1 := fz BK101 1; have hfz45_2 := fz BK101 2; have hfz45_3 := fz BK101 3) | ((with_reducible refine gate_callee (f := 28) rfl ?_); refine glE (some 11) rfl rfl Tryz.func28 (by kernel_rfl) rfl #[.string a0_0] rfl ?_; (with_reducible refine (agateref07_Name_s.calls a0_0 false _ A2.out).mono ?_); rintro e w' ⟨rfl, ⟨nd, rfl⟩⟩; refine ⟨_, rfl, ?_⟩))
  go_ret
  exact ⟨cl3, hbA HB⟩
end Go.Proofs.YtgmggompdidcoaaGreatDoor.X
