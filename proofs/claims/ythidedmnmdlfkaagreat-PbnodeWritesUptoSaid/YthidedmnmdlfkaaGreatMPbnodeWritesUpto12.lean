import Derived.Test.YthidedmnmdlfkaaGreatMPbnodeWritesUpto2
import Derived.Test.YthidedmnmdlfkaaGreatMPbnodeWritesUpto10
import Derived.Test.YthidedmnmdlfkaaGreatMPbnodeWritesUpto11
import Derived.Test.YthidedmnmdlfkaaGreatMPbnodeWritesUpto5
import Derived.Test.YthidedmnmdlfkaaGreatMPbnodeWritesUpto3
import Derived.Test.YthidedmnmdlfkaaGreatMPbnodeWritesUpto4
namespace Go.Proofs.YthidedmnmdlfkaaGreat.X
open Go.RowKit Go.Proofs.YthidedmnmdlfkaaGreatW.PrintWords Go.Proofs.YthidedmnmdlfkaaGreatW.PrintLast Go.Proofs.YthidedmnmdlfkaaGreatW.PrintMore
attribute [local go_sem] max2_int min2_int max_two min_two max_three min_three max_four min_four
set_option linter.unusedVariables false
set_option linter.unusedSimpArgs false
def agatelaw01_Awake.f  : Option (Bool) := (varint_Read.f (⟨#[172, 2, 120]⟩ : ByteArray)).bind fun bt101 => ((varint_Put.f 300).bind fun t104 => (if t104.toList = ([172, 2] : List UInt8) then (if bt101.1 = 300 then (if bt101.2.1 = 2 then (some (bt101.2.2 == 0)) else (some false)) else (some false)) else (some false)))
set_option maxHeartbeats 8000000 in
set_option maxRecDepth 100000 in
theorem agatelaw01_Awake.calls  (r : Bool) (w : World) (h : agatelaw01_Awake.f  = some r) :
  Calls Tryz.prog 56 #[] w fun e w' => e = .returned (.bool r) ∧ Below w.heap.size w w' := by
 have HB := mk0 (Below.refl w.heap.size w); have H : ((varint_Read.f (⟨#[172, 2, 120]⟩ : ByteArray)).bind fun bt101 => ((varint_Put.f 300).bind fun t104 => (if t104.toList = ([172, 2] : List UInt8) then (if bt101.1 = 300 then (if bt101.2.1 = 2 then (some (bt101.2.2 == 0)) else (some false)) else (some false)) else (some false)))) = some r := h; clear h; replace H := Option.bind_eq_some_iff.mp H; obtain ⟨⟨t101, t102, t103⟩, A10, H⟩ := H; replace H : ((varint_Put.f 300).bind fun t104 => (if t104.toList = ([172, 2] : List UInt8) then (if t101 = 300 then (if t102 = 2 then (some (t103 == 0)) else (some false)) else (some false)) else (some false))) = some r := H; have A1 := mk0 A10; clear A10; replace H := bnd H; obtain ⟨t104, A2, H⟩ := H
 by_cases c3 : t104.toList = ([172, 2] : List UInt8)
 ·
  rw [if_pos c3] at H; have c3b0 := beq_iff_eq.mpr c3; have c3b1 := bne_eq_false_iff_eq.mpr c3; clear c3
  by_cases c4 : t101 = 300
  ·
   rw [if_pos c4] at H; have c4b0 := beq_iff_eq.mpr c4; have c4b1 := bne_eq_false_iff_eq.mpr c4; clear c4
   by_cases c5 : t102 = 2
   ·
    rw [if_pos c5] at H; have c5b0 := beq_iff_eq.mpr c5; have c5b1 := bne_eq_false_iff_eq.mpr c5; clear c5; obtain rfl := Option.some.inj H
    go_enter Tryz.func56, Tryz.ntmps56
    go_wp2_with (first | ((with_reducible refine gate_callee (f := 71) rfl ?_); refine glE (some 5) rfl rfl Tryz.func71 (by kernel_rfl) rfl #[.string (⟨#[172, 2, 120]⟩ : ByteArray)] rfl ?_; (with_reducible refine (varint_Read.calls (⟨#[172, 2, 120]⟩ : ByteArray) t101 t102 t103 _ A1.out).mono ?_); rintro e w' ⟨rfl, ⟨nd, rfl⟩⟩; refine ⟨_, rfl, ?_⟩) | ((with_reducible refine gate_callee (f := 64) rfl ?_); refine glE (some 9) rfl rfl Tryz.func64 (by kernel_rfl) rfl #[.int .u64 300] rfl ?_; (with_reducible refine (varint_Put.calls 300 t104 _ A2.out).mono ?_); rintro e w6 ⟨rfl, hb⟩; refine ⟨_, rfl, ?_⟩; replace HB := hbS HB hb; (try clear hb)))
    go_ret
    exact ⟨cl3, hbA HB⟩
   ·
    rw [if_neg c5] at H; have c5b0 := beq_eq_false_iff_ne.mpr c5; have c5b1 := bne_iff_ne.mpr c5; obtain rfl := Option.some.inj H
    go_enter Tryz.func56, Tryz.ntmps56
    go_wp2_with (first | ((with_reducible refine gate_callee (f := 71) rfl ?_); refine glE (some 5) rfl rfl Tryz.func71 (by kernel_rfl) rfl #[.string (⟨#[172, 2, 120]⟩ : ByteArray)] rfl ?_; (with_reducible refine (varint_Read.calls (⟨#[172, 2, 120]⟩ : ByteArray) t101 t102 t103 _ A1.out).mono ?_); rintro e w' ⟨rfl, ⟨nd, rfl⟩⟩; refine ⟨_, rfl, ?_⟩) | ((with_reducible refine gate_callee (f := 64) rfl ?_); refine glE (some 9) rfl rfl Tryz.func64 (by kernel_rfl) rfl #[.int .u64 300] rfl ?_; (with_reducible refine (varint_Put.calls 300 t104 _ A2.out).mono ?_); rintro e w7 ⟨rfl, hb⟩; refine ⟨_, rfl, ?_⟩; replace HB := hbS HB hb; (try clear hb)))
    go_ret
    exact ⟨cl3, hbA HB⟩
  ·
   rw [if_neg c4] at H; have c4b0 := beq_eq_false_iff_ne.mpr c4; have c4b1 := bne_iff_ne.mpr c4; obtain rfl := Option.some.inj H
   go_enter Tryz.func56, Tryz.ntmps56
   go_wp2_with (first | ((with_reducible refine gate_callee (f := 71) rfl ?_); refine glE (some 5) rfl rfl Tryz.func71 (by kernel_rfl) rfl #[.string (⟨#[172, 2, 120]⟩ : ByteArray)] rfl ?_; (with_reducible refine (varint_Read.calls (⟨#[172, 2, 120]⟩ : ByteArray) t101 t102 t103 _ A1.out).mono ?_); rintro e w' ⟨rfl, ⟨nd, rfl⟩⟩; refine ⟨_, rfl, ?_⟩) | ((with_reducible refine gate_callee (f := 64) rfl ?_); refine glE (some 9) rfl rfl Tryz.func64 (by kernel_rfl) rfl #[.int .u64 300] rfl ?_; (with_reducible refine (varint_Put.calls 300 t104 _ A2.out).mono ?_); rintro e w8 ⟨rfl, hb⟩; refine ⟨_, rfl, ?_⟩; replace HB := hbS HB hb; (try clear hb)))
   go_ret
   exact ⟨cl3, hbA HB⟩
 ·
  rw [if_neg c3] at H; have c3b0 := beq_eq_false_iff_ne.mpr c3; have c3b1 := bne_iff_ne.mpr c3; obtain rfl := Option.some.inj H
  go_enter Tryz.func56, Tryz.ntmps56
  go_wp2_with (first | ((with_reducible refine gate_callee (f := 71) rfl ?_); refine glE (some 5) rfl rfl Tryz.func71 (by kernel_rfl) rfl #[.string (⟨#[172, 2, 120]⟩ : ByteArray)] rfl ?_; (with_reducible refine (varint_Read.calls (⟨#[172, 2, 120]⟩ : ByteArray) t101 t102 t103 _ A1.out).mono ?_); rintro e w' ⟨rfl, ⟨nd, rfl⟩⟩; refine ⟨_, rfl, ?_⟩) | ((with_reducible refine gate_callee (f := 64) rfl ?_); refine glE (some 9) rfl rfl Tryz.func64 (by kernel_rfl) rfl #[.int .u64 300] rfl ?_; (with_reducible refine (varint_Put.calls 300 t104 _ A2.out).mono ?_); rintro e w9 ⟨rfl, hb⟩; refine ⟨_, rfl, ?_⟩; replace HB := hbS HB hb; (try clear hb)))
  go_ret
  exact ⟨cl3, hbA HB⟩
def agatelaw01_Awake_s.f : Option Bool := some true
theorem agatelaw01_Awake_s.ev (r) (h : agatelaw01_Awake_s.f = some r) : ∃ k : Nat, agatelaw01_Awake.f = some r := by
  refine ⟨0, ?_⟩
  rw [← h]
  have h1 : varint_Read.f ⟨#[172, 2, 120]⟩ = some (300, 2, 0) := by
    have : vRead ⟨#[172, 2, 120]⟩ = (300, 2, 0) := by decide
    unfold varint_Read.f; rw [this]; rfl
  have h2 : varint_Put.f 300 = some ⟨#[172, 2]⟩ := by
    unfold varint_Put.f
    rw [if_pos (by decide)]
    have : vStr (300 : Int).toNat = ⟨#[172, 2]⟩ := by
      show strOfNums ((vPut 300).map Int.ofNat) = _
      rw [vPut_ge (by decide), vPut_lt (by decide)]; rfl
    rw [this]
  unfold agatelaw01_Awake.f agatelaw01_Awake_s.f
  rw [h1, h2]
  simp only [Option.bind_some]
  rw [if_pos (by rw [ByteArray.toList_eq])]
  rfl
set_option maxHeartbeats 1000000 in
theorem agatelaw01_Awake_s.calls  (r : Bool) (w : World) (h : agatelaw01_Awake_s.f  = some r) :
    Calls Tryz.prog 56 #[] w fun e w' => e = .returned (.bool r) ∧ Below w.heap.size w w' := by
  obtain ⟨k, hk⟩ := agatelaw01_Awake_s.ev  _ h
  exact agatelaw01_Awake.calls r w hk
def wire_fixed.l0 : Nat → ByteArray → Int → Int → Int → Option (Int)
  | 0, _, _, _, _ => none
  | k + 1, x0, x3, x6, x7 => if x7 < x6 then (if 0 ≤ x7 then (if x7 < (x0.size : Int) then (if 0 ≤ (wrap64 (8 * x7)) then (wire_fixed.l0 k x0 (Go.bits .or .u64 x3 (shl .u64 (IntKind.u64.wrap (bt x0 x7)) (wrap64 (8 * x7)))) x6 (wrap64 (x7 + 1))) else (none)) else (none)) else (none)) else (some x3)
def wire_fixed.f (k : Nat) (a0 : ByteArray) : Option (Int) := wire_fixed.l0 k a0 0 (a0.size : Int) 0
set_option maxHeartbeats 8000000 in
set_option maxRecDepth 100000 in
theorem wire_fixed.calls (k : Nat) (a0 : ByteArray) (r : Int) (w : World) (h : wire_fixed.f k a0 = some r) :
    Calls Tryz.prog 84 #[.string a0] w fun e w' => e = .returned (.int .u64 r) ∧ Drawn0 w w' := by
  have H : (wire_fixed.l0 k a0 0 (a0.size : Int) 0) = some r := h; clear h; have H' := mk0 H; clear H
  go_enter Tryz.func84, Tryz.ntmps84
  go_wp2
  go_loopg [3, 7] k (fun kq v3 v7 w' => ∃ (x3_1 : Int) (x7_1 : Int), v3 = .int .u64 x3_1 ∧ v7 = .int .i64 x7_1 ∧ Aside0 (wire_fixed.l0 kq a0 x3_1 (a0.size : Int) x7_1 = some r) ∧ Aside0 (kq ≤ k) ∧ Drawn0 w w')
  case atStart => exact ⟨(0), (0), cl0, cl0, H', ⟨Nat.le_refl _⟩, by repeat (first | exact Drawn0.refl _ | apply Drawn0.step)⟩
  case round =>
    clear H'; obtain ⟨x3_1, x7_1, rfl, rfl, HA, HK1, ⟨m1, rfl⟩⟩ := hrel
    cases gk with
    | zero => exact absurd HA.out (by simp [wire_fixed.l0])
    | succ k1 =>
      have H := HA.out; clear HA
      simp only [wire_fixed.l0] at H
      by_cases c2 : x7_1 < (a0.size : Int)
      · rw [if_pos c2] at H
        have c2b0 := decide_eq_true c2; clear c2
        by_cases c3 : 0 ≤ x7_1
        · rw [if_pos c3] at H
          have c3b0 := decide_eq_true c3; clear c3
          by_cases c4 : x7_1 < (a0.size : Int)
          · rw [if_pos c4] at H
            have c4b0 := decide_eq_true c4; clear c4; obtain ⟨ji6, hji6⟩ : ∃ j_ : Int, (wrap64 (8 * x7_1)) = j_ := ⟨_, rfl⟩; replace H : (if 0 ≤ (ji6) then (wire_fixed.l0 k1 a0 (Go.bits .or .u64 x3_1 (shl .u64 (IntKind.u64.wrap (bt a0 x7_1)) (ji6))) (a0.size : Int) (wrap64 (x7_1 + 1))) else (none)) = some r := by first | (rw [hji6] at H; exact H) | (simp only [hji6] at H ⊢; exact H)
            have hji6w : (IntKind.i64.wrap (8 * x7_1)) = ji6 := (i64_w _).trans hji6
            by_cases c7 : 0 ≤ (ji6)
            · rw [if_pos c7] at H
              have c7b0 := eq_true c7; have c7b1 := decide_eq_true c7; clear c7; obtain ⟨ji8, hji8⟩ : ∃ j_ : Int, (shl .u64 (IntKind.u64.wrap (bt a0 x7_1)) (ji6)) = j_ := ⟨_, rfl⟩; replace H : (wire_fixed.l0 k1 a0 (Go.bits .or .u64 x3_1 (ji8)) (a0.size : Int) (wrap64 (x7_1 + 1))) = some r := by first | (rw [hji8] at H; exact H) | (simp only [hji8] at H ⊢; exact H)
              have hji8_ : (IntKind.u64.wrap ((IntKind.u64.wrap (bt a0 x7_1)) * 2 ^ min (ji6).toNat 64)) = ji8 := hji8; have hji8z : (ji6) ≤ 64 → (IntKind.u64.wrap ((IntKind.u64.wrap (bt a0 x7_1)) * 2 ^ (ji6).toNat)) = ji8 := shl_small hji8; have H' := mk0 H; clear H; have p5 : 0 ≤ (x7_1 : Int) := ofd; have q5 : x7_1 < (a0.size : Int) := ofd; have hx5 := bt_at a0 x7_1; replace p5 := eq_true p5; replace q5 := eq_true q5
              go_wp2
              go_roundg k1
              case measure => have := HK1.out; omega
              case rel => exact ⟨(Go.bits .or .u64 x3_1 (ji8)), (wrap64 (x7_1 + 1)), (by first | rfl | (simp; done) | (simp only [← hji8] <;> (first | rfl | simp)) | (simp [*]; done)), cl0, H', cl2 HK1, by repeat (first | exact Drawn0.refl _ | apply Drawn0.step)⟩
            · rw [if_neg c7] at H; exact ne0 H
          · rw [if_neg c4] at H; exact ne0 H
        · rw [if_neg c3] at H; exact ne0 H
      · rw [if_neg c2] at H
        have c2b0 := decide_eq_false c2; clear c2; obtain rfl := Option.some.inj H
        go_wp2
        go_ret
        exact ⟨by first | rfl | (simp; done) | (simp [*]; done), by repeat (first | exact Drawn0.refl _ | apply Drawn0.step)⟩
def wire_fixed_s.f (a0 : ByteArray) : Option Int := if a0.size ≤ 8 then some ((lowS (ns a0) : Nat) : Int) else none
theorem wire_fixed_eval (s : ByteArray) (hs : s.size ≤ 8) (d : Nat) : ∀ (k i : Nat), s.size - i = d → i ≤ s.size → d < k →
    wire_fixed.l0 k s (lowS ((ns s).take i) : Nat) (s.size : Int) (i : Int) = some ((lowS (ns s) : Nat) : Int) := by
  induction d with
  | zero =>
    intro k i hd hi hk
    obtain ⟨k, rfl⟩ : ∃ m, k = m + 1 := ⟨k - 1, by omega⟩
    simp only [wire_fixed.l0]
    rw [if_neg (by omega), List.take_of_length_le (by rw [ns_length]; omega)]
  | succ d ih =>
    intro k i hd hi hk
    obtain ⟨k, rfl⟩ : ∃ m, k = m + 1 := ⟨k - 1, by omega⟩
    have hlt : i < s.size := by omega
    have hb : bt s (i : Int) = ((s[i]'hlt).toNat : Int) := bt_ns s i hlt
    have hl : ((ns s).take i).length = i := by rw [List.length_take, ns_length]; omega
    have hv : lowS ((ns s).take i) < 256 ^ i := by
      have := lowS_lt ((ns s).take i) (fun c hc => ns_lt s c (List.mem_of_mem_take hc))
      rwa [hl] at this
    have ht : (ns s).take (i + 1) = (ns s).take i ++ [(s[i]'hlt).toNat] := by
      rw [List.take_succ_eq_append_getElem (by rw [ns_length]; exact hlt), ns_get s i hlt]
    simp only [wire_fixed.l0]
    rw [if_pos (by omega), if_pos (by omega), if_pos (by omega), if_pos (by rw [wrap64_id (by omega) (by omega)]; omega), hb, wire_fixed_step _ _ i hv (by omega) (s[i]'hlt).toNat_lt]
    have := ih k (i + 1) (by omega) (by omega) (by omega)
    rw [ht, lowS_snoc, hl] at this
    rw [wrap64_id (by omega) (by omega)]
    exact this
theorem wire_fixed_s.ev (a0 : ByteArray) (r) (h : wire_fixed_s.f a0 = some r) : ∃ k, wire_fixed.f k a0 = some r := by
  unfold wire_fixed_s.f at h
  split at h
  · rename_i hs
    exact ⟨a0.size + 1, (wire_fixed_eval a0 hs a0.size (a0.size + 1) 0 (by omega) (by omega) (by omega)).trans h⟩
  · cases h
set_option maxHeartbeats 1000000 in
theorem wire_fixed_s.calls (a0 : ByteArray) (r : Int) (w : World) (h : wire_fixed_s.f a0 = some r) :
    Calls Tryz.prog 84 #[.string a0] w fun e w' => e = .returned (.int .u64 r) ∧ Drawn0 w w' := by
  obtain ⟨k, hk⟩ := wire_fixed_s.ev a0 _ h
  exact wire_fixed.calls k a0 r w hk
def wire_one.j0 : Nat → ByteArray → Int → Int → Int → Bool → Int → Int → Int → ByteArray → Option (Int × Int × Int × ByteArray × Int × Int)
 | 0, _, _, _, _, _, _, _, _, _ => none
 | k + 1, x0, x6, x9, x40, x41, x107000, x107001, x107002, x107003 => if x41 = true then (if 0 ≤ x6 then (if x6 ≤ (x0.size : Int) then ((varint_Read.f (x0.extract (x6 : Int).toNat x0.size)).bind fun bt107 => (if bt107.2.2 = 0 then (if x107001 = 0 then (some (x107000, x107001, bt107.1, x107003, wrap64 (x6 + bt107.2.1), 0)) else (if bt107.1 > (IntKind.u64.wrap (wrap64 ((x0.size : Int) - (wrap64 (x6 + bt107.2.1))))) then (some (0, 0, 0, (⟨#[]⟩ : ByteArray), 0, 1)) else (if 0 ≤ (wrap64 (x6 + bt107.2.1)) then (if (wrap64 (x6 + bt107.2.1)) ≤ (wrap64 ((wrap64 (x6 + bt107.2.1)) + (wrap64 (bt107.1)))) then (if (wrap64 ((wrap64 (x6 + bt107.2.1)) + (wrap64 (bt107.1)))) ≤ (x0.size : Int) then (some (x107000, x107001, x107002, x0.extract ((wrap64 (x6 + bt107.2.1)) : Int).toNat ((wrap64 ((wrap64 (x6 + bt107.2.1)) + (wrap64 (bt107.1)))) : Int).toNat, wrap64 ((wrap64 (x6 + bt107.2.1)) + (wrap64 (bt107.1))), 0)) else (none)) else (none)) else (none)))) else (some (0, 0, 0, (⟨#[]⟩ : ByteArray), 0, bt107.2.2)))) else (none)) else (none)) else (if x40 = 5 then (if (wrap64 ((x0.size : Int) - x6)) < 4 then (some (0, 0, 0, (⟨#[]⟩ : ByteArray), 0, 1)) else (if 0 ≤ x6 then (if x6 ≤ (wrap64 (x6 + 4)) then (if (wrap64 (x6 + 4)) ≤ (x0.size : Int) then ((wire_fixed_s.f (x0.extract (x6 : Int).toNat ((wrap64 (x6 + 4)) : Int).toNat)).bind fun t110 => (some (x107000, x107001, t110, x107003, wrap64 (x6 + 4), 0))) else (none)) else (none)) else (none))) else (if (wrap64 ((x0.size : Int) - x6)) < x9 then (some (0, 0, 0, (⟨#[]⟩ : ByteArray), 0, 1)) else (if 0 ≤ x6 then (if x6 ≤ (wrap64 (x6 + x9)) then (if (wrap64 (x6 + x9)) ≤ (x0.size : Int) then ((wire_fixed_s.f (x0.extract (x6 : Int).toNat ((wrap64 (x6 + x9)) : Int).toNat)).bind fun t111 => (some (x107000, x107001, t111, x107003, wrap64 (x6 + x9), 0))) else (none)) else (none)) else (none))))
def wire_one.f (k : Nat) (a0 : ByteArray) : Option (Int × Int × Int × ByteArray × Int × Int) := (varint_Read.f a0).bind fun bt102 => (if bt102.2.2 = 0 then ((wire_may.f (bt102.1 / 8) (Go.bits .and .u64 bt102.1 7)).bind fun t105 => (if t105 = true then (if (wrap64 (Go.bits .and .u64 bt102.1 7)) = 0 then (wire_one.j0 k a0 bt102.2.1 8 (wrap64 (Go.bits .and .u64 bt102.1 7)) ((wrap64 (Go.bits .and .u64 bt102.1 7)) == 0) (wrap64 (bt102.1 / 8)) (wrap64 (Go.bits .and .u64 bt102.1 7)) 0 (⟨#[]⟩ : ByteArray)) else (wire_one.j0 k a0 bt102.2.1 8 (wrap64 (Go.bits .and .u64 bt102.1 7)) ((wrap64 (Go.bits .and .u64 bt102.1 7)) == 2) (wrap64 (bt102.1 / 8)) (wrap64 (Go.bits .and .u64 bt102.1 7)) 0 (⟨#[]⟩ : ByteArray))) else (some (0, 0, 0, (⟨#[]⟩ : ByteArray), 0, 3)))) else (some (0, 0, 0, (⟨#[]⟩ : ByteArray), 0, bt102.2.2)))
set_option maxHeartbeats 8000000 in
set_option maxRecDepth 100000 in
theorem wire_one.calls (k : Nat) (a0 : ByteArray) (r1 : Int) (r2 : Int) (r3 : Int) (r4 : ByteArray) (r5 : Int) (r6 : Int) (w : World) (h : wire_one.f k a0 = some (r1, r2, r3, r4, r5, r6)) :
  Calls Tryz.prog 69 #[.string a0] w fun e w' => e = .returned (.tuple #[.agg #[.int .i64 r1, .int .i64 r2, .int .u64 r3, .string r4], .int .i64 r5, .int .i64 r6]) ∧ Below w.heap.size w w' := by
 have hu75 := Tryz.underlying75; have HB := mk0 (Below.refl w.heap.size w); have H : ((varint_Read.f a0).bind fun bt102 => (if bt102.2.2 = 0 then ((wire_may.f (bt102.1 / 8) (Go.bits .and .u64 bt102.1 7)).bind fun t105 => (if t105 = true then (if (wrap64 (Go.bits .and .u64 bt102.1 7)) = 0 then (wire_one.j0 k a0 bt102.2.1 8 (wrap64 (Go.bits .and .u64 bt102.1 7)) ((wrap64 (Go.bits .and .u64 bt102.1 7)) == 0) (wrap64 (bt102.1 / 8)) (wrap64 (Go.bits .and .u64 bt102.1 7)) 0 (⟨#[]⟩ : ByteArray)) else (wire_one.j0 k a0 bt102.2.1 8 (wrap64 (Go.bits .and .u64 bt102.1 7)) ((wrap64 (Go.bits .and .u64 bt102.1 7)) == 2) (wrap64 (bt102.1 / 8)) (wrap64 (Go.bits .and .u64 bt102.1 7)) 0 (⟨#[]⟩ : ByteArray))) else (some (0, 0, 0, (⟨#[]⟩ : ByteArray), 0, 3)))) else (some (0, 0, 0, (⟨#[]⟩ : ByteArray), 0, bt102.2.2)))) = some (r1, r2, r3, r4, r5, r6) := h; clear h; replace H := Option.bind_eq_some_iff.mp H; obtain ⟨⟨t102, t103, t104⟩, A20, H⟩ := H; replace H : (if t104 = 0 then ((wire_may.f (t102 / 8) (Go.bits .and .u64 t102 7)).bind fun t105 => (if t105 = true then (if (wrap64 (Go.bits .and .u64 t102 7)) = 0 then (wire_one.j0 k a0 t103 8 (wrap64 (Go.bits .and .u64 t102 7)) ((wrap64 (Go.bits .and .u64 t102 7)) == 0) (wrap64 (t102 / 8)) (wrap64 (Go.bits .and .u64 t102 7)) 0 (⟨#[]⟩ : ByteArray)) else (wire_one.j0 k a0 t103 8 (wrap64 (Go.bits .and .u64 t102 7)) ((wrap64 (Go.bits .and .u64 t102 7)) == 2) (wrap64 (t102 / 8)) (wrap64 (Go.bits .and .u64 t102 7)) 0 (⟨#[]⟩ : ByteArray))) else (some (0, 0, 0, (⟨#[]⟩ : ByteArray), 0, 3)))) else (some (0, 0, 0, (⟨#[]⟩ : ByteArray), 0, t104))) = some (r1, r2, r3, r4, r5, r6) := H; have A2 := mk0 A20; clear A20
 by_cases c3 : t104 = 0
 ·
  rw [if_pos c3] at H; have c3b0 := beq_iff_eq.mpr c3; have c3b1 := bne_eq_false_iff_eq.mpr c3; clear c3; replace H := bnd H; obtain ⟨t105, A4, H⟩ := H
  by_cases c5 : t105 = true
  ·
   subst c5; have H1 : (if (wrap64 (Go.bits .and .u64 t102 7)) = 0 then (wire_one.j0 k a0 t103 8 (wrap64 (Go.bits .and .u64 t102 7)) ((wrap64 (Go.bits .and .u64 t102 7)) == 0) (wrap64 (t102 / 8)) (wrap64 (Go.bits .and .u64 t102 7)) 0 (⟨#[]⟩ : ByteArray)) else (wire_one.j0 k a0 t103 8 (wrap64 (Go.bits .and .u64 t102 7)) ((wrap64 (Go.bits .and .u64 t102 7)) == 2) (wrap64 (t102 / 8)) (wrap64 (Go.bits .and .u64 t102 7)) 0 (⟨#[]⟩ : ByteArray))) = some (r1, r2, r3, r4, r5, r6) := by rw [if_pos rfl] at H; exact H
   clear H; have H := H1; clear H1; have HC6 := mk0 H; clear H
   go_enter Tryz.func69, Tryz.ntmps69
   go_upto_if 41 with (first | ((with_reducible refine gate_dst (N := 2) rfl ?_); refine boxE (N := 2) (cs := #[.int .i64 0, .int .i64 0, .int .u64 0, .string (⟨#[]⟩ : ByteArray)]) (t := 75) ?_; intro gb101 hg w7 hbox hb; have BK101 := mk0 hbox; have GW101 := gwS HB hg; have GE101 := gwS HB hg; replace HB := hbS HB hb; clear hb hbox hg) | ((with_reducible refine gate_callee (f := 71) rfl ?_); refine glE (some 15) rfl rfl Tryz.func71 (by kernel_rfl) rfl #[.string a0] rfl ?_; (with_reducible refine (varint_Read.calls a0 t102 t103 t104 _ A2.out).mono ?_); rintro e w' ⟨rfl, ⟨nd, rfl⟩⟩; refine ⟨_, rfl, ?_⟩; (try (rw [drewN_self w7]; generalize hq_ : World.drewN w7 _ = w7; have n0_ : Aside0 (w7.heap[gb101]? = some (.cells #[.int .i64 0, .int .i64 0, .int .u64 0, .string (⟨#[]⟩ : ByteArray)] 75 (0, 0))) := ⟨by rw [← hq_]; exact (bkA BK101)⟩; have n1_ : Aside0 (Below w.heap.size w w7) := ⟨by rw [← hq_]; exact (hbA HB)⟩; clear BK101 HB hq_; have BK101 := n0_; have HB := n1_; clear n0_ n1_))) | ((with_reducible refine gate_callee (f := 63) rfl ?_); refine glE (some 29) rfl rfl Tryz.func63 (by kernel_rfl) rfl #[.int .u64 (t102 / 8), .int .u64 (Go.bits .and .u64 t102 7)] rfl ?_; (with_reducible refine (wire_may.calls (t102 / 8) (Go.bits .and .u64 t102 7) true _ A4.out).mono ?_); rintro e w' ⟨rfl, ⟨nd, rfl⟩⟩; refine ⟨_, rfl, ?_⟩; (try (rw [drewN_self w7]; generalize hq_ : World.drewN w7 _ = w7; have n0_ : Aside0 (w7.heap[gb101]? = some (.cells #[.int .i64 0, .int .i64 0, .int .u64 0, .string (⟨#[]⟩ : ByteArray)] 75 (0, 0))) := ⟨by rw [← hq_]; exact (bkA BK101)⟩; have n1_ : Aside0 (Below w.heap.size w w7) := ⟨by rw [← hq_]; exact (hbA HB)⟩; clear BK101 HB hq_; have BK101 := n0_; have HB := n1_; clear n0_ n1_))) | ((with_reducible refine gate_dst (N := 8) rfl ?_); refine boxE (N := 8) (cs := #[.int .i64 0, .int .i64 0, .int .u64 0, .string (⟨#[]⟩ : ByteArray)]) (t := 75) ?_; intro gb106 hg w8 hbox hb; have BK106 := mk0 hbox; have GW106 := gwS HB hg; have GE106 := gwS HB hg; replace HB := hbS HB hb; have NB101_106 := neS BK101 hg; have NB106_101 := neT BK101 hg; replace BK101 := bkS BK101 hb; clear hb hbox hg; have hnb9 := NB106_101.out; have hnc9 := NB101_106.out; obtain ⟨hcz10_0, hcz10_1, hcz10_2, hcz10_3⟩ := cz4 BK106; have hfz10_0 := fz BK106 0; have hfz10_1 := fz BK106 1; have hfz10_2 := fz BK106 2; have hfz10_3 := blk_frozen BK106.out 3))
   (try simp only [Act.put, List.setIfInBounds_toArray, List.set_cons_zero, List.set_cons_succ])
   go_cut [41] (fun v41 wc => ∃ (kq : Nat) (x41_5 : Bool), v41 = .bool x41_5 ∧ Aside0 (wire_one.j0 kq a0 t103 8 (wrap64 (Go.bits .and .u64 t102 7)) x41_5 (wrap64 (t102 / 8)) (wrap64 (Go.bits .and .u64 t102 7)) 0 (⟨#[]⟩ : ByteArray) = some (r1, r2, r3, r4, r5, r6)) ∧ Aside0 (kq ≤ k) ∧ Aside0 (wc.heap[gb101]? = some (.cells #[.int .i64 0, .int .i64 0, .int .u64 0, .string (⟨#[]⟩ : ByteArray)] 75 (0, 0))) ∧ Aside0 (wc.heap[gb106]? = some (.cells #[.int .i64 (wrap64 (t102 / 8)), .int .i64 (wrap64 (Go.bits .and .u64 t102 7)), .int .u64 0, .string (⟨#[]⟩ : ByteArray)] 75 (0, 0))) ∧ Aside0 (Below w.heap.size w wc))
   case first =>
    have H := HC6.out; clear HC6
    by_cases c11 : (wrap64 (Go.bits .and .u64 t102 7)) = 0
    ·
     rw [if_pos c11] at H; have c11b0 := beq_iff_eq.mpr c11; have c11b1 := bne_eq_false_iff_eq.mpr c11; clear c11
     (first | rw [c11b0] | (simp only [i64_w, i32_w]; rw [c11b0]) | skip)
     have H' := mk0 H; clear H
     go_wp2
     go_meet
     case rel => exact ⟨_, (((wrap64 (Go.bits .and .u64 t102 7)) == 0)), cl0, H', cl1, ⟨bkW BK101⟩, ⟨bkW BK106⟩, ⟨hbA HB⟩⟩
    ·
     rw [if_neg c11] at H; have c11b0 := beq_eq_false_iff_ne.mpr c11; have c11b1 := bne_iff_ne.mpr c11
     (first | rw [c11b0] | (simp only [i64_w, i32_w]; rw [c11b0]) | skip)
     have H' := mk0 H; clear H
     go_wp2
     go_meet
     case rel => exact ⟨_, (((wrap64 (Go.bits .and .u64 t102 7)) == 2)), cl0, H', cl1, ⟨bkW BK101⟩, ⟨bkW BK106⟩, ⟨hbA HB⟩⟩
   case rest =>
    clear HC6; try clear c3; try clear c3b0; try clear c3b1; try clear c5; try clear hcz10_0; try clear hcz10_1; try clear hcz10_2; try clear hcz10_3; try clear hfz10_0; try clear hfz10_1; try clear hfz10_2; try clear hfz10_3
    obtain ⟨kq, x41_5, rfl, HA, HJ5, BK101, BK106, HB⟩ := hcut
    cases kq with
    | zero => exact absurd HA.out (by simp [wire_one.j0])
    | succ kj5 =>
     have H := HA.out; clear HA
     simp only [wire_one.j0] at H
     by_cases c12 : x41_5 = true
     ·
      subst c12; have H1 : (if 0 ≤ t103 then (if t103 ≤ (a0.size : Int) then ((varint_Read.f (a0.extract (t103 : Int).toNat a0.size)).bind fun bt107 => (if bt107.2.2 = 0 then (if (wrap64 (Go.bits .and .u64 t102 7)) = 0 then (some ((wrap64 (t102 / 8)), (wrap64 (Go.bits .and .u64 t102 7)), bt107.1, (⟨#[]⟩ : ByteArray), wrap64 (t103 + bt107.2.1), 0)) else (if bt107.1 > (IntKind.u64.wrap (wrap64 ((a0.size : Int) - (wrap64 (t103 + bt107.2.1))))) then (some (0, 0, 0, (⟨#[]⟩ : ByteArray), 0, 1)) else (if 0 ≤ (wrap64 (t103 + bt107.2.1)) then (if (wrap64 (t103 + bt107.2.1)) ≤ (wrap64 ((wrap64 (t103 + bt107.2.1)) + (wrap64 (bt107.1)))) then (if (wrap64 ((wrap64 (t103 + bt107.2.1)) + (wrap64 (bt107.1)))) ≤ (a0.size : Int) then (some ((wrap64 (t102 / 8)), (wrap64 (Go.bits .and .u64 t102 7)), 0, a0.extract ((wrap64 (t103 + bt107.2.1)) : Int).toNat ((wrap64 ((wrap64 (t103 + bt107.2.1)) + (wrap64 (bt107.1)))) : Int).toNat, wrap64 ((wrap64 (t103 + bt107.2.1)) + (wrap64 (bt107.1))), 0)) else (none)) else (none)) else (none)))) else (some (0, 0, 0, (⟨#[]⟩ : ByteArray), 0, bt107.2.2)))) else (none)) else (none)) = some (r1, r2, r3, r4, r5, r6) := by rw [if_pos rfl] at H; exact H
      clear H; have H := H1; clear H1; replace H := ifS H; obtain ⟨c13, H⟩ := H; have c13b0 := eq_true c13; have c13b1 := decide_eq_true c13; clear c13; replace H := ifS H; obtain ⟨c14, H⟩ := H; have c14b0 := eq_true c14; have c14b1 := decide_eq_true c14; clear c14; replace H := Option.bind_eq_some_iff.mp H; obtain ⟨⟨t107, t108, t109⟩, A150, H⟩ := H; replace H : (if t109 = 0 then (if (wrap64 (Go.bits .and .u64 t102 7)) = 0 then (some ((wrap64 (t102 / 8)), (wrap64 (Go.bits .and .u64 t102 7)), t107, (⟨#[]⟩ : ByteArray), wrap64 (t103 + t108), 0)) else (if t107 > (IntKind.u64.wrap (wrap64 ((a0.size : Int) - (wrap64 (t103 + t108))))) then (some (0, 0, 0, (⟨#[]⟩ : ByteArray), 0, 1)) else (if 0 ≤ (wrap64 (t103 + t108)) then (if (wrap64 (t103 + t108)) ≤ (wrap64 ((wrap64 (t103 + t108)) + (wrap64 (t107)))) then (if (wrap64 ((wrap64 (t103 + t108)) + (wrap64 (t107)))) ≤ (a0.size : Int) then (some ((wrap64 (t102 / 8)), (wrap64 (Go.bits .and .u64 t102 7)), 0, a0.extract ((wrap64 (t103 + t108)) : Int).toNat ((wrap64 ((wrap64 (t103 + t108)) + (wrap64 (t107)))) : Int).toNat, wrap64 ((wrap64 (t103 + t108)) + (wrap64 (t107))), 0)) else (none)) else (none)) else (none)))) else (some (0, 0, 0, (⟨#[]⟩ : ByteArray), 0, t109))) = some (r1, r2, r3, r4, r5, r6) := H; have A15 := mk0 A150; clear A150
      by_cases c16 : t109 = 0
      ·
       rw [if_pos c16] at H; have c16b0 := beq_iff_eq.mpr c16; have c16b1 := bne_eq_false_iff_eq.mpr c16; clear c16
       by_cases c17 : (wrap64 (Go.bits .and .u64 t102 7)) = 0
       ·
        rw [if_pos c17] at H; have c17b0 := beq_iff_eq.mpr c17; have c17b1 := bne_eq_false_iff_eq.mpr c17; clear c17
        simp only [Option.some.injEq, Prod.mk.injEq] at H
        obtain ⟨rfl, rfl, rfl, rfl, rfl, rfl⟩ := H
        go_wp2_with (first | ((with_reducible refine gate_callee (f := 71) rfl ?_); refine glE (some 48) rfl rfl Tryz.func71 (by kernel_rfl) rfl #[.string (a0.extract (t103 : Int).toNat a0.size)] rfl ?_; (with_reducible refine (varint_Read.calls (a0.extract (t103 : Int).toNat a0.size) t107 t108 t109 _ A15.out).mono ?_); rintro e w' ⟨rfl, ⟨nd, rfl⟩⟩; refine ⟨_, rfl, ?_⟩; (try (rw [drewN_self wc]; generalize hq_ : World.drewN wc _ = wc; have n0_ : Aside0 (wc.heap[gb101]? = some (.cells #[.int .i64 0, .int .i64 0, .int .u64 0, .string (⟨#[]⟩ : ByteArray)] 75 (0, 0))) := ⟨by rw [← hq_]; exact (bkA BK101)⟩; have n1_ : Aside0 (wc.heap[gb106]? = some (.cells #[.int .i64 (wrap64 (t102 / 8)), .int .i64 (wrap64 (Go.bits .and .u64 t102 7)), .int .u64 0, .string (⟨#[]⟩ : ByteArray)] 75 (0, 0))) := ⟨by rw [← hq_]; exact (bkA BK106)⟩; have n2_ : Aside0 (Below w.heap.size w wc) := ⟨by rw [← hq_]; exact (hbA HB)⟩; clear BK101 BK106 HB hq_; have BK101 := n0_; have BK106 := n1_; have HB := n2_; clear n0_ n1_ n2_)); have hnb18 := NB106_101.out; have hnc18 := NB101_106.out; obtain ⟨hcz19_0, hcz19_1, hcz19_2, hcz19_3⟩ := cz4 BK106; have hfz19_0 := fz BK106 0; have hfz19_1 := fz BK106 1; have hfz19_2 := fz BK106 2; have hfz19_3 := fz BK106 3; obtain ⟨hcz20_0, hcz20_1, hcz20_2, hcz20_3⟩ := cz4 BK101; have hfz20_0 := fz BK101 0; have hfz20_1 := fz BK101 1; have hfz20_2 := fz BK101 2; have hfz20_3 := blk_frozen BK101.out 3))
        refine bodyPost_ret (results_ctt rfl _ _ gb101 75 #[.int .i64 (wrap64 (t102 / 8)), .int .i64 (wrap64 (Go.bits .and .u64 t102 7)), .int .u64 t107, .string (⟨#[]⟩ : ByteArray)] (0, 0) _ rfl (bkW BK101) Tryz.underlying75 rfl (by kernel_rfl)) rfl ?_
        exact ⟨cl3, hbA HB⟩
       ·
        rw [if_neg c17] at H; have c17b0 := beq_eq_false_iff_ne.mpr c17; have c17b1 := bne_iff_ne.mpr c17
        by_cases c21 : t107 > (IntKind.u64.wrap (wrap64 ((a0.size : Int) - (wrap64 (t103 + t108)))))
        ·
         rw [if_pos c21] at H; have c21b0 := decide_eq_true c21; clear c21
         simp only [Option.some.injEq, Prod.mk.injEq] at H
         obtain ⟨rfl, rfl, rfl, rfl, rfl, rfl⟩ := H
         go_wp2_with (first | ((with_reducible refine gate_callee (f := 71) rfl ?_); refine glE (some 48) rfl rfl Tryz.func71 (by kernel_rfl) rfl #[.string (a0.extract (t103 : Int).toNat a0.size)] rfl ?_; (with_reducible refine (varint_Read.calls (a0.extract (t103 : Int).toNat a0.size) t107 t108 t109 _ A15.out).mono ?_); rintro e w' ⟨rfl, ⟨nd, rfl⟩⟩; refine ⟨_, rfl, ?_⟩; (try (rw [drewN_self wc]; generalize hq_ : World.drewN wc _ = wc; have n0_ : Aside0 (wc.heap[gb101]? = some (.cells #[.int .i64 0, .int .i64 0, .int .u64 0, .string (⟨#[]⟩ : ByteArray)] 75 (0, 0))) := ⟨by rw [← hq_]; exact (bkA BK101)⟩; have n1_ : Aside0 (wc.heap[gb106]? = some (.cells #[.int .i64 (wrap64 (t102 / 8)), .int .i64 (wrap64 (Go.bits .and .u64 t102 7)), .int .u64 0, .string (⟨#[]⟩ : ByteArray)] 75 (0, 0))) := ⟨by rw [← hq_]; exact (bkA BK106)⟩; have n2_ : Aside0 (Below w.heap.size w wc) := ⟨by rw [← hq_]; exact (hbA HB)⟩; clear BK101 BK106 HB hq_; have BK101 := n0_; have BK106 := n1_; have HB := n2_; clear n0_ n1_ n2_)); have hnb22 := NB106_101.out; have hnc22 := NB101_106.out; obtain ⟨hcz23_0, hcz23_1, hcz23_2, hcz23_3⟩ := cz4 BK106; have hfz23_0 := fz BK106 0; have hfz23_1 := fz BK106 1; have hfz23_2 := fz BK106 2; have hfz23_3 := fz BK106 3; obtain ⟨hcz24_0, hcz24_1, hcz24_2, hcz24_3⟩ := cz4 BK101; have hfz24_0 := fz BK101 0; have hfz24_1 := fz BK101 1; have hfz24_2 := fz BK101 2; have hfz24_3 := blk_frozen BK101.out 3))
         refine bodyPost_ret (results_ctt rfl _ _ gb101 75 #[.int .i64 0, .int .i64 0, .int .u64 0, .string (⟨#[]⟩ : ByteArray)] (0, 0) _ rfl (bkW BK101) Tryz.underlying75 rfl (by kernel_rfl)) rfl ?_
         exact ⟨cl3, hbA HB⟩
        ·
         rw [if_neg c21] at H; have c21b0 := decide_eq_false c21; clear c21; obtain ⟨ji25, hji25⟩ : ∃ j_ : Int, (wrap64 (t103 + t108)) = j_ := ⟨_, rfl⟩; replace H : (if 0 ≤ (ji25) then (if (ji25) ≤ (wrap64 ((ji25) + (wrap64 (t107)))) then (if (wrap64 ((ji25) + (wrap64 (t107)))) ≤ (a0.size : Int) then (some ((wrap64 (t102 / 8)), (wrap64 (Go.bits .and .u64 t102 7)), 0, a0.extract ((ji25) : Int).toNat ((wrap64 ((ji25) + (wrap64 (t107)))) : Int).toNat, wrap64 ((ji25) + (wrap64 (t107))), 0)) else (none)) else (none)) else (none)) = some (r1, r2, r3, r4, r5, r6) := by first | (rw [hji25] at H; exact H) | (simp only [hji25] at H ⊢; exact H)
         (try rw [hji25] at c21b0)
         (try rw [hji25] at A15)
         have hji25w : (IntKind.i64.wrap (t103 + t108)) = ji25 := (i64_w _).trans hji25; replace H := ifS H; obtain ⟨c26, H⟩ := H; have c26b0 := eq_true c26; have c26b1 := decide_eq_true c26; clear c26; replace H := ifS H; obtain ⟨c27, H⟩ := H; have c27b0 := eq_true c27; have c27b1 := decide_eq_true c27; replace H := ifS H; obtain ⟨c28, H⟩ := H; have c28b0 := eq_true c28; have c28b1 := decide_eq_true c28
         simp only [Option.some.injEq, Prod.mk.injEq] at H
         obtain ⟨rfl, rfl, rfl, rfl, rfl, rfl⟩ := H
         go_wp2_with (first | ((with_reducible refine gate_callee (f := 71) rfl ?_); refine glE (some 48) rfl rfl Tryz.func71 (by kernel_rfl) rfl #[.string (a0.extract (t103 : Int).toNat a0.size)] rfl ?_; (with_reducible refine (varint_Read.calls (a0.extract (t103 : Int).toNat a0.size) t107 t108 t109 _ A15.out).mono ?_); rintro e w' ⟨rfl, ⟨nd, rfl⟩⟩; refine ⟨_, rfl, ?_⟩; (try (rw [drewN_self wc]; generalize hq_ : World.drewN wc _ = wc; have n0_ : Aside0 (wc.heap[gb101]? = some (.cells #[.int .i64 0, .int .i64 0, .int .u64 0, .string (⟨#[]⟩ : ByteArray)] 75 (0, 0))) := ⟨by rw [← hq_]; exact (bkA BK101)⟩; have n1_ : Aside0 (wc.heap[gb106]? = some (.cells #[.int .i64 (wrap64 (t102 / 8)), .int .i64 (wrap64 (Go.bits .and .u64 t102 7)), .int .u64 0, .string (⟨#[]⟩ : ByteArray)] 75 (0, 0))) := ⟨by rw [← hq_]; exact (bkA BK106)⟩; have n2_ : Aside0 (Below w.heap.size w wc) := ⟨by rw [← hq_]; exact (hbA HB)⟩; clear BK101 BK106 HB hq_; have BK101 := n0_; have BK106 := n1_; have HB := n2_; clear n0_ n1_ n2_)); have hnb29 := NB106_101.out; have hnc29 := NB101_106.out; obtain ⟨hcz30_0, hcz30_1, hcz30_2, hcz30_3⟩ := cz4 BK106; have hfz30_0 := fz BK106 0; have hfz30_1 := fz BK106 1; have hfz30_2 := fz BK106 2; have hfz30_3 := fz BK106 3; obtain ⟨hcz31_0, hcz31_1, hcz31_2, hcz31_3⟩ := cz4 BK101; have hfz31_0 := fz BK101 0; have hfz31_1 := fz BK101 1; have hfz31_2 := fz BK101 2; have hfz31_3 := blk_frozen BK101.out 3))
         refine bodyPost_ret (results_ctt rfl _ _ gb101 75 #[.int .i64 (wrap64 (t102 / 8)), .int .i64 (wrap64 (Go.bits .and .u64 t102 7)), .int .u64 0, .string (a0.extract ((ji25) : Int).toNat ((wrap64 ((ji25) + (wrap64 (t107)))) : Int).toNat)] (0, 0) _ rfl (bkW BK101) Tryz.underlying75 rfl (by kernel_rfl)) rfl ?_
         exact ⟨by first | rfl | (simp [errW_none, errW_some] <;> rfl) | (simp only [← hji25]; first | rfl | (simp [errW_none, errW_some] <;> rfl)) | (simp [*, errW_none, errW_some] <;> rfl), hbA HB⟩
      ·
       rw [if_neg c16] at H; have c16b0 := beq_eq_false_iff_ne.mpr c16; have c16b1 := bne_iff_ne.mpr c16
       simp only [Option.some.injEq, Prod.mk.injEq] at H
       obtain ⟨rfl, rfl, rfl, rfl, rfl, rfl⟩ := H
       go_wp2_with (first | ((with_reducible refine gate_callee (f := 71) rfl ?_); refine glE (some 48) rfl rfl Tryz.func71 (by kernel_rfl) rfl #[.string (a0.extract (t103 : Int).toNat a0.size)] rfl ?_; (with_reducible refine (varint_Read.calls (a0.extract (t103 : Int).toNat a0.size) t107 t108 t109 _ A15.out).mono ?_); rintro e w' ⟨rfl, ⟨nd, rfl⟩⟩; refine ⟨_, rfl, ?_⟩; (try (rw [drewN_self wc]; generalize hq_ : World.drewN wc _ = wc; have n0_ : Aside0 (wc.heap[gb101]? = some (.cells #[.int .i64 0, .int .i64 0, .int .u64 0, .string (⟨#[]⟩ : ByteArray)] 75 (0, 0))) := ⟨by rw [← hq_]; exact (bkA BK101)⟩; have n1_ : Aside0 (wc.heap[gb106]? = some (.cells #[.int .i64 (wrap64 (t102 / 8)), .int .i64 (wrap64 (Go.bits .and .u64 t102 7)), .int .u64 0, .string (⟨#[]⟩ : ByteArray)] 75 (0, 0))) := ⟨by rw [← hq_]; exact (bkA BK106)⟩; have n2_ : Aside0 (Below w.heap.size w wc) := ⟨by rw [← hq_]; exact (hbA HB)⟩; clear BK101 BK106 HB hq_; have BK101 := n0_; have BK106 := n1_; have HB := n2_; clear n0_ n1_ n2_)); have hnb32 := NB101_106.out; have hnc32 := NB106_101.out; obtain ⟨hcz33_0, hcz33_1, hcz33_2, hcz33_3⟩ := cz4 BK101; have hfz33_0 := fz BK101 0; have hfz33_1 := fz BK101 1; have hfz33_2 := fz BK101 2; have hfz33_3 := blk_frozen BK101.out 3))
       refine bodyPost_ret (results_ctt rfl _ _ gb101 75 #[.int .i64 0, .int .i64 0, .int .u64 0, .string (⟨#[]⟩ : ByteArray)] (0, 0) _ rfl (bkW BK101) Tryz.underlying75 rfl (by kernel_rfl)) rfl ?_
       exact ⟨cl3, hbA HB⟩
     ·
      replace c12 := Bool.eq_false_iff.mpr c12; subst c12; have H1 : (if (wrap64 (Go.bits .and .u64 t102 7)) = 5 then (if (wrap64 ((a0.size : Int) - t103)) < 4 then (some (0, 0, 0, (⟨#[]⟩ : ByteArray), 0, 1)) else (if 0 ≤ t103 then (if t103 ≤ (wrap64 (t103 + 4)) then (if (wrap64 (t103 + 4)) ≤ (a0.size : Int) then ((wire_fixed_s.f (a0.extract (t103 : Int).toNat ((wrap64 (t103 + 4)) : Int).toNat)).bind fun t110 => (some ((wrap64 (t102 / 8)), (wrap64 (Go.bits .and .u64 t102 7)), t110, (⟨#[]⟩ : ByteArray), wrap64 (t103 + 4), 0))) else (none)) else (none)) else (none))) else (if (wrap64 ((a0.size : Int) - t103)) < 8 then (some (0, 0, 0, (⟨#[]⟩ : ByteArray), 0, 1)) else (if 0 ≤ t103 then (if t103 ≤ (wrap64 (t103 + 8)) then (if (wrap64 (t103 + 8)) ≤ (a0.size : Int) then ((wire_fixed_s.f (a0.extract (t103 : Int).toNat ((wrap64 (t103 + 8)) : Int).toNat)).bind fun t111 => (some ((wrap64 (t102 / 8)), (wrap64 (Go.bits .and .u64 t102 7)), t111, (⟨#[]⟩ : ByteArray), wrap64 (t103 + 8), 0))) else (none)) else (none)) else (none)))) = some (r1, r2, r3, r4, r5, r6) := by rw [if_neg (show ¬ (false = true) by decide)] at H; exact H
      clear H; have H := H1; clear H1
      by_cases c34 : (wrap64 (Go.bits .and .u64 t102 7)) = 5
      ·
       rw [if_pos c34] at H; have c34b0 := beq_iff_eq.mpr c34; have c34b1 := bne_eq_false_iff_eq.mpr c34; clear c34
       by_cases c35 : (wrap64 ((a0.size : Int) - t103)) < 4
       ·
        rw [if_pos c35] at H; have c35b0 := decide_eq_true c35; clear c35
        simp only [Option.some.injEq, Prod.mk.injEq] at H
        obtain ⟨rfl, rfl, rfl, rfl, rfl, rfl⟩ := H; have hnb36 := NB101_106.out; have hnc36 := NB106_101.out; obtain ⟨hcz37_0, hcz37_1, hcz37_2, hcz37_3⟩ := cz4 BK101; have hfz37_0 := fz BK101 0; have hfz37_1 := fz BK101 1; have hfz37_2 := fz BK101 2; have hfz37_3 := fz BK101 3
        go_wp2
        refine bodyPost_ret (results_ctt rfl _ _ gb101 75 #[.int .i64 0, .int .i64 0, .int .u64 0, .string (⟨#[]⟩ : ByteArray)] (0, 0) _ rfl (bkW BK101) Tryz.underlying75 rfl (by kernel_rfl)) rfl ?_
        exact ⟨cl3, hbA HB⟩
       ·
        rw [if_neg c35] at H; have c35b0 := decide_eq_false c35; clear c35; replace H := ifS H; obtain ⟨c38, H⟩ := H; have c38b0 := eq_true c38; have c38b1 := decide_eq_true c38; clear c38; replace H := ifS H; obtain ⟨c39, H⟩ := H; have c39b0 := eq_true c39; have c39b1 := decide_eq_true c39; replace H := ifS H; obtain ⟨c40, H⟩ := H; have c40b0 := eq_true c40; have c40b1 := decide_eq_true c40; replace H := bnd H; obtain ⟨t110, A41, H⟩ := H
        simp only [Option.some.injEq, Prod.mk.injEq] at H
        obtain ⟨rfl, rfl, rfl, rfl, rfl, rfl⟩ := H
        go_wp2_with (first | ((with_reducible refine gate_callee (f := 84) rfl ?_); refine glE (some 102) rfl rfl Tryz.func84 (by kernel_rfl) rfl #[.string (a0.extract (t103 : Int).toNat ((wrap64 (t103 + 4)) : Int).toNat)] rfl ?_; (with_reducible refine (wire_fixed_s.calls (a0.extract (t103 : Int).toNat ((wrap64 (t103 + 4)) : Int).toNat) t110 _ A41.out).mono ?_); rintro e w' ⟨rfl, ⟨nd, rfl⟩⟩; refine ⟨_, rfl, ?_⟩; (try (rw [drewN_self wc]; generalize hq_ : World.drewN wc _ = wc; have n0_ : Aside0 (wc.heap[gb101]? = some (.cells #[.int .i64 0, .int .i64 0, .int .u64 0, .string (⟨#[]⟩ : ByteArray)] 75 (0, 0))) := ⟨by rw [← hq_]; exact (bkA BK101)⟩; have n1_ : Aside0 (wc.heap[gb106]? = some (.cells #[.int .i64 (wrap64 (t102 / 8)), .int .i64 (wrap64 (Go.bits .and .u64 t102 7)), .int .u64 0, .string (⟨#[]⟩ : ByteArray)] 75 (0, 0))) := ⟨by rw [← hq_]; exact (bkA BK106)⟩; have n2_ : Aside0 (Below w.heap.size w wc) := ⟨by rw [← hq_]; exact (hbA HB)⟩; clear BK101 BK106 HB hq_; have BK101 := n0_; have BK106 := n1_; have HB := n2_; clear n0_ n1_ n2_)); have hnb42 := NB106_101.out; have hnc42 := NB101_106.out; obtain ⟨hcz43_0, hcz43_1, hcz43_2, hcz43_3⟩ := cz4 BK106; have hfz43_0 := fz BK106 0; have hfz43_1 := fz BK106 1; have hfz43_2 := fz BK106 2; have hfz43_3 := fz BK106 3; obtain ⟨hcz44_0, hcz44_1, hcz44_2, hcz44_3⟩ := cz4 BK101; have hfz44_0 := fz BK101 0; have hfz44_1 := fz BK101 1; have hfz44_2 := fz BK101 2; have hfz44_3 := blk_frozen BK101.out 3))
        refine bodyPost_ret (results_ctt rfl _ _ gb101 75 #[.int .i64 (wrap64 (t102 / 8)), .int .i64 (wrap64 (Go.bits .and .u64 t102 7)), .int .u64 t110, .string (⟨#[]⟩ : ByteArray)] (0, 0) _ rfl (bkW BK101) Tryz.underlying75 rfl (by kernel_rfl)) rfl ?_
        exact ⟨cl3, hbA HB⟩
      ·
       rw [if_neg c34] at H; have c34b0 := beq_eq_false_iff_ne.mpr c34; have c34b1 := bne_iff_ne.mpr c34
       by_cases c45 : (wrap64 ((a0.size : Int) - t103)) < 8
       ·
        rw [if_pos c45] at H; have c45b0 := decide_eq_true c45; clear c45
        simp only [Option.some.injEq, Prod.mk.injEq] at H
        obtain ⟨rfl, rfl, rfl, rfl, rfl, rfl⟩ := H; have hnb46 := NB101_106.out; have hnc46 := NB106_101.out; obtain ⟨hcz47_0, hcz47_1, hcz47_2, hcz47_3⟩ := cz4 BK101; have hfz47_0 := fz BK101 0; have hfz47_1 := fz BK101 1; have hfz47_2 := fz BK101 2; have hfz47_3 := fz BK101 3
        go_wp2
        refine bodyPost_ret (results_ctt rfl _ _ gb101 75 #[.int .i64 0, .int .i64 0, .int .u64 0, .string (⟨#[]⟩ : ByteArray)] (0, 0) _ rfl (bkW BK101) Tryz.underlying75 rfl (by kernel_rfl)) rfl ?_
        exact ⟨cl3, hbA HB⟩
       ·
        rw [if_neg c45] at H; have c45b0 := decide_eq_false c45; clear c45; replace H := ifS H; obtain ⟨c48, H⟩ := H; have c48b0 := eq_true c48; have c48b1 := decide_eq_true c48; clear c48; replace H := ifS H; obtain ⟨c49, H⟩ := H; have c49b0 := eq_true c49; have c49b1 := decide_eq_true c49; replace H := ifS H; obtain ⟨c50, H⟩ := H; have c50b0 := eq_true c50; have c50b1 := decide_eq_true c50; replace H := bnd H; obtain ⟨t111, A51, H⟩ := H
        simp only [Option.some.injEq, Prod.mk.injEq] at H
        obtain ⟨rfl, rfl, rfl, rfl, rfl, rfl⟩ := H
        go_wp2_with (first | ((with_reducible refine gate_callee (f := 84) rfl ?_); refine glE (some 102) rfl rfl Tryz.func84 (by kernel_rfl) rfl #[.string (a0.extract (t103 : Int).toNat ((wrap64 (t103 + 8)) : Int).toNat)] rfl ?_; (with_reducible refine (wire_fixed_s.calls (a0.extract (t103 : Int).toNat ((wrap64 (t103 + 8)) : Int).toNat) t111 _ A51.out).mono ?_); rintro e w' ⟨rfl, ⟨nd, rfl⟩⟩; refine ⟨_, rfl, ?_⟩; (try (rw [drewN_self wc]; generalize hq_ : World.drewN wc _ = wc; have n0_ : Aside0 (wc.heap[gb101]? = some (.cells #[.int .i64 0, .int .i64 0, .int .u64 0, .string (⟨#[]⟩ : ByteArray)] 75 (0, 0))) := ⟨by rw [← hq_]; exact (bkA BK101)⟩; have n1_ : Aside0 (wc.heap[gb106]? = some (.cells #[.int .i64 (wrap64 (t102 / 8)), .int .i64 (wrap64 (Go.bits .and .u64 t102 7)), .int .u64 0, .string (⟨#[]⟩ : ByteArray)] 75 (0, 0))) := ⟨by rw [← hq_]; exact (bkA BK106)⟩; have n2_ : Aside0 (Below w.heap.size w wc) := ⟨by rw [← hq_]; exact (hbA HB)⟩; clear BK101 BK106 HB hq_; have BK101 := n0_; have BK106 := n1_; have HB := n2_; clear n0_ n1_ n2_)); have hnb52 := NB106_101.out; have hnc52 := NB101_106.out; obtain ⟨hcz53_0, hcz53_1, hcz53_2, hcz53_3⟩ := cz4 BK106; have hfz53_0 := fz BK106 0; have hfz53_1 := fz BK106 1; have hfz53_2 := fz BK106 2; have hfz53_3 := fz BK106 3; obtain ⟨hcz54_0, hcz54_1, hcz54_2, hcz54_3⟩ := cz4 BK101; have hfz54_0 := fz BK101 0; have hfz54_1 := fz BK101 1; have hfz54_2 := fz BK101 2; have hfz54_3 := blk_frozen BK101.out 3))
        refine bodyPost_ret (results_ctt rfl _ _ gb101 75 #[.int .i64 (wrap64 (t102 / 8)), .int .i64 (wrap64 (Go.bits .and .u64 t102 7)), .int .u64 t111, .string (⟨#[]⟩ : ByteArray)] (0, 0) _ rfl (bkW BK101) Tryz.underlying75 rfl (by kernel_rfl)) rfl ?_
        exact ⟨cl3, hbA HB⟩
  ·
   replace c5 := Bool.eq_false_iff.mpr c5; subst c5; have H1 : (some (0, 0, 0, (⟨#[]⟩ : ByteArray), 0, 3)) = some (r1, r2, r3, r4, r5, r6) := by rw [if_neg (show ¬ (false = true) by decide)] at H; exact H
   clear H; have H := H1; clear H1
   simp only [Option.some.injEq, Prod.mk.injEq] at H
   obtain ⟨rfl, rfl, rfl, rfl, rfl, rfl⟩ := H
   go_enter Tryz.func69, Tryz.ntmps69
   go_wp2_with (first | ((with_reducible refine gate_dst (N := 2) rfl ?_); refine boxE (N := 2) (cs := #[.int .i64 0, .int .i64 0, .int .u64 0, .string (⟨#[]⟩ : ByteArray)]) (t := 75) ?_; intro gb101 hg w55 hbox hb; have BK101 := mk0 hbox; have GW101 := gwS HB hg; have GE101 := gwS HB hg; replace HB := hbS HB hb; clear hb hbox hg) | ((with_reducible refine gate_callee (f := 71) rfl ?_); refine glE (some 15) rfl rfl Tryz.func71 (by kernel_rfl) rfl #[.string a0] rfl ?_; (with_reducible refine (varint_Read.calls a0 t102 t103 t104 _ A2.out).mono ?_); rintro e w' ⟨rfl, ⟨nd, rfl⟩⟩; refine ⟨_, rfl, ?_⟩; (try (rw [drewN_self w55]; generalize hq_ : World.drewN w55 _ = w55; have n0_ : Aside0 (w55.heap[gb101]? = some (.cells #[.int .i64 0, .int .i64 0, .int .u64 0, .string (⟨#[]⟩ : ByteArray)] 75 (0, 0))) := ⟨by rw [← hq_]; exact (bkA BK101)⟩; have n1_ : Aside0 (Below w.heap.size w w55) := ⟨by rw [← hq_]; exact (hbA HB)⟩; clear BK101 HB hq_; have BK101 := n0_; have HB := n1_; clear n0_ n1_))) | ((with_reducible refine gate_callee (f := 63) rfl ?_); refine glE (some 29) rfl rfl Tryz.func63 (by kernel_rfl) rfl #[.int .u64 (t102 / 8), .int .u64 (Go.bits .and .u64 t102 7)] rfl ?_; (with_reducible refine (wire_may.calls (t102 / 8) (Go.bits .and .u64 t102 7) false _ A4.out).mono ?_); rintro e w' ⟨rfl, ⟨nd, rfl⟩⟩; refine ⟨_, rfl, ?_⟩; (try (rw [drewN_self w55]; generalize hq_ : World.drewN w55 _ = w55; have n0_ : Aside0 (w55.heap[gb101]? = some (.cells #[.int .i64 0, .int .i64 0, .int .u64 0, .string (⟨#[]⟩ : ByteArray)] 75 (0, 0))) := ⟨by rw [← hq_]; exact (bkA BK101)⟩; have n1_ : Aside0 (Below w.heap.size w w55) := ⟨by rw [← hq_]; exact (hbA HB)⟩; clear BK101 HB hq_; have BK101 := n0_; have HB := n1_; clear n0_ n1_)); obtain ⟨hcz56_0, hcz56_1, hcz56_2, hcz56_3⟩ := cz4 BK101; have hfz56_0 := fz BK101 0; have hfz56_1 := fz BK101 1; have hfz56_2 := fz BK101 2; have hfz56_3 := blk_frozen BK101.out 3))
   refine bodyPost_ret (results_ctt rfl _ _ gb101 75 #[.int .i64 0, .int .i64 0, .int .u64 0, .string (⟨#[]⟩ : ByteArray)] (0, 0) _ rfl (bkW BK101) Tryz.underlying75 rfl (by kernel_rfl)) rfl ?_
   exact ⟨cl3, hbA HB⟩
 ·
  rw [if_neg c3] at H; have c3b0 := beq_eq_false_iff_ne.mpr c3; have c3b1 := bne_iff_ne.mpr c3
  simp only [Option.some.injEq, Prod.mk.injEq] at H
  obtain ⟨rfl, rfl, rfl, rfl, rfl, rfl⟩ := H
  go_enter Tryz.func69, Tryz.ntmps69
  go_wp2_with (first | ((with_reducible refine gate_dst (N := 2) rfl ?_); refine boxE (N := 2) (cs := #[.int .i64 0, .int .i64 0, .int .u64 0, .string (⟨#[]⟩ : ByteArray)]) (t := 75) ?_; intro gb101 hg w57 hbox hb; have BK101 := mk0 hbox; have GW101 := gwS HB hg; have GE101 := gwS HB hg; replace HB := hbS HB hb; clear hb hbox hg) | ((with_reducible refine gate_callee (f := 71) rfl ?_); refine glE (some 15) rfl rfl Tryz.func71 (by kernel_rfl) rfl #[.string a0] rfl ?_; (with_reducible refine (varint_Read.calls a0 t102 t103 t104 _ A2.out).mono ?_); rintro e w' ⟨rfl, ⟨nd, rfl⟩⟩; refine ⟨_, rfl, ?_⟩; (try (rw [drewN_self w57]; generalize hq_ : World.drewN w57 _ = w57; have n0_ : Aside0 (w57.heap[gb101]? = some (.cells #[.int .i64 0, .int .i64 0, .int .u64 0, .string (⟨#[]⟩ : ByteArray)] 75 (0, 0))) := ⟨by rw [← hq_]; exact (bkA BK101)⟩; have n1_ : Aside0 (Below w.heap.size w w57) := ⟨by rw [← hq_]; exact (hbA HB)⟩; clear BK101 HB hq_; have BK101 := n0_; have HB := n1_; clear n0_ n1_)); obtain ⟨hcz58_0, hcz58_1, hcz58_2, hcz58_3⟩ := cz4 BK101; have hfz58_0 := fz BK101 0; have hfz58_1 := fz BK101 1; have hfz58_2 := fz BK101 2; have hfz58_3 := blk_frozen BK101.out 3))
  refine bodyPost_ret (results_ctt rfl _ _ gb101 75 #[.int .i64 0, .int .i64 0, .int .u64 0, .string (⟨#[]⟩ : ByteArray)] (0, 0) _ rfl (bkW BK101) Tryz.underlying75 rfl (by kernel_rfl)) rfl ?_
  exact ⟨cl3, hbA HB⟩
def oneT (r : Fl × Nat × Nat) : Int × Int × Int × ByteArray × Int × Int := (r.1.1, r.1.2.1, r.1.2.2.1, r.1.2.2.2, r.2.1, r.2.2)
def wire_one_s.f (a0 : ByteArray) : Option (Int × Int × Int × ByteArray × Int × Int) := if a0.size ≤ 140737488351232 then some (oneT (oneS a0)) else none
theorem and_seven (t : Nat) (h : t < 18446744073709551616) : Go.bits .and .u64 (t : Int) 7 = ((t % 8 : Nat) : Int) := by
  have := u64_and_nat t 7 h (by decide)
  rw [show ((7 : Nat) : Int) = 7 from rfl] at this
  rw [this, show (7 : Nat) = 2 ^ 3 - 1 from rfl, Nat.and_two_pow_sub_one_eq_mod]
theorem wire_one_text (k : Nat) (a0 : ByteArray) (n num : Nat) (ty : Nat) (hs : a0.size ≤ 140737488351232) (hn : n ≤ a0.size) (hn10 : n ≤ 10) (hty : ty = 0 ∨ ty = 2) :
    wire_one.j0 (k + 1) a0 n 8 ty true num ty 0 ⟨#[]⟩ = some (oneT (
      if (vRead (a0.extract n a0.size)).2.2 ≠ 0 then ((0, 0, 0, ⟨#[]⟩), 0, (vRead (a0.extract n a0.size)).2.2)
      else if ty = 0 then ((num, 0, (vRead (a0.extract n a0.size)).1, ⟨#[]⟩), n + (vRead (a0.extract n a0.size)).2.1, 0)
      else if a0.size - (n + (vRead (a0.extract n a0.size)).2.1) < (vRead (a0.extract n a0.size)).1 then ((0, 0, 0, ⟨#[]⟩), 0, 1)
      else ((num, 2, 0, a0.extract (n + (vRead (a0.extract n a0.size)).2.1) (n + (vRead (a0.extract n a0.size)).2.1 + (vRead (a0.extract n a0.size)).1)), n + (vRead (a0.extract n a0.size)).2.1 + (vRead (a0.extract n a0.size)).1, 0))) := by
  have hsz := extract_size' a0 n hn
  obtain ⟨⟨y, m, e⟩, hr⟩ : ∃ x, vRead (a0.extract n a0.size) = x := ⟨_, rfl⟩
  simp only [wire_one.j0, varint_Read.f, Option.bind_some, Int.toNat_natCast]
  rw [if_pos trivial, if_pos (by omega), if_pos (by omega)]
  simp only [hr]
  by_cases he : e = 0
  · subst he
    have g := vRead_pos (a0.extract n a0.size) (by rw [hr])
    rw [hr, hsz] at g
    simp only at g
    have ew : wrap64 ((n : Int) + m) = ((n + m : Nat) : Int) := by rw [wrap64_id (by omega) (by omega)]; omega
    rw [show ∀ x y : Fl × Nat × Nat, (if (0 : Nat) ≠ 0 then x else y) = y from fun _ _ => if_neg (by simp), if_pos (by rfl), ew]
    rcases hty with rfl | rfl
    · rw [if_pos (by rfl), if_pos (by rfl)]; rfl
    · rw [if_neg (by decide), wrap64_id (x := (a0.size : Int) - ((n + m : Nat) : Int)) (by omega) (by omega), u64_id (x := (a0.size : Int) - ((n + m : Nat) : Int)) (by omega) (by omega),
        show ∀ x y : Fl × Nat × Nat, (if (2 : Nat) = 0 then x else y) = y from fun _ _ => if_neg (by decide)]
      by_cases hy : a0.size - (n + m) < y
      · rw [if_pos (by omega), if_pos hy]; rfl
      · have ew2 : wrap64 (((n + m : Nat) : Int) + wrap64 (y : Int)) = ((n + m + y : Nat) : Int) := by
          rw [wrap64_id (x := (y : Int)) (by omega) (by omega), wrap64_id (by omega) (by omega)]; omega
        rw [if_neg (by omega), if_neg hy, if_pos (by omega), ew2, if_pos (by omega), if_pos (by omega)]; rfl
  · rw [if_neg (by omega), if_pos he]; rfl
theorem wire_one_fix (k : Nat) (a0 : ByteArray) (n num : Nat) (ty : Nat) (hs : a0.size ≤ 140737488351232) (hn : n ≤ a0.size) (hty : ty = 1 ∨ ty = 5) :
    wire_one.j0 (k + 1) a0 n 8 ty false num ty 0 ⟨#[]⟩ = some (oneT (
      if a0.size - n < (if ty = 5 then 4 else 8) then ((0, 0, 0, ⟨#[]⟩), 0, 1)
      else ((num, (ty : Nat), (lowS (ns (a0.extract n (n + (if ty = 5 then 4 else 8)))) : Nat), ⟨#[]⟩), n + (if ty = 5 then 4 else 8), 0))) := by
  have ew : wrap64 ((a0.size : Int) - n) = ((a0.size - n : Nat) : Int) := by rw [wrap64_id (by omega) (by omega)]; omega
  simp only [wire_one.j0]
  rw [if_neg (by decide), ew]
  rcases hty with rfl | rfl
  · have ew2 : wrap64 ((n : Int) + 8) = ((n + 8 : Nat) : Int) := by rw [wrap64_id (by omega) (by omega)]; omega
    rw [if_neg (by decide), if_neg (show ¬ (1 = 5) by decide), ew2]
    by_cases h : a0.size - n < 8
    · rw [if_pos (by omega), if_pos h]; rfl
    · have ef : wire_fixed_s.f (a0.extract n (n + 8)) = some ((lowS (ns (a0.extract n (n + 8))) : Nat) : Int) := if_pos (by rw [ByteArray.size_extract]; omega)
      rw [if_neg (by omega), if_neg h, if_pos (by omega), if_pos (by omega), if_pos (by omega), Int.toNat_natCast, Int.toNat_natCast, ef]; rfl
  · have ew2 : wrap64 ((n : Int) + 4) = ((n + 4 : Nat) : Int) := by rw [wrap64_id (by omega) (by omega)]; omega
    rw [if_pos (by decide), if_pos (show (5 = 5) by decide), ew2]
    by_cases h : a0.size - n < 4
    · rw [if_pos (by omega), if_pos h]; rfl
    · have ef : wire_fixed_s.f (a0.extract n (n + 4)) = some ((lowS (ns (a0.extract n (n + 4))) : Nat) : Int) := if_pos (by rw [ByteArray.size_extract]; omega)
      rw [if_neg (by omega), if_neg h, if_pos (by omega), if_pos (by omega), if_pos (by omega), Int.toNat_natCast, Int.toNat_natCast, ef]; rfl
theorem wire_one_s.ev (a0 : ByteArray) (r) (h : wire_one_s.f a0 = some r) : ∃ k, wire_one.f k a0 = some r := by
  unfold wire_one_s.f at h
  split at h
  · rename_i hs
    rw [← h]
    refine ⟨1, ?_⟩
    unfold wire_one.f oneS
    obtain ⟨⟨t, n, e⟩, hr⟩ : ∃ x, vRead a0 = x := ⟨_, rfl⟩
    simp only [varint_Read.f, Option.bind_some, hr]
    by_cases he : e = 0
    · subst he
      have g := vRead_pos a0 (by rw [hr])
      rw [hr] at g
      simp only at g
      rw [if_pos (by rfl), and_seven t g.2.2.2, show ((t : Int) / 8) = ((t / 8 : Nat) : Int) by omega, wire_may_eval _ _ (by omega) (by omega), Option.bind_some, if_neg (show ¬ ((0 : Nat) ≠ 0) by simp),
        wrap64_id (x := ((t % 8 : Nat) : Int)) (by omega) (by omega), wrap64_id (x := ((t / 8 : Nat) : Int)) (by omega) (by omega)]
      by_cases hm : 1 ≤ t / 8 ∧ t / 8 ≤ 536870911 ∧ (t % 8 = 0 ∨ t % 8 = 1 ∨ t % 8 = 2 ∨ t % 8 = 5)
      · rw [if_pos (decide_eq_true (by omega))]
        have hnn : ¬ ¬ (1 ≤ t / 8 ∧ t / 8 ≤ 536870911 ∧ (t % 8 = 0 ∨ t % 8 = 1 ∨ t % 8 = 2 ∨ t % 8 = 5)) := fun h => h hm
        rw [show ∀ x y : Fl × Nat × Nat, (if ¬ (1 ≤ t / 8 ∧ t / 8 ≤ 536870911 ∧ (t % 8 = 0 ∨ t % 8 = 1 ∨ t % 8 = 2 ∨ t % 8 = 5)) then x else y) = y from fun _ _ => if_neg hnn]
        by_cases h2 : t % 8 = 0 ∨ t % 8 = 2
        · have key := wire_one_text 0 a0 n (t / 8) (t % 8) hs (by omega) (by omega) h2
          rw [show ∀ x y : Fl × Nat × Nat, (if t % 8 = 0 ∨ t % 8 = 2 then x else y) = x from fun _ _ => if_pos h2]
          rcases h2 with h2 | h2
          · rw [if_pos (by omega), show (((t % 8 : Nat) : Int) == 0) = true from beq_iff_eq.2 (by omega)]
            exact key
          · rw [if_neg (by omega), show (((t % 8 : Nat) : Int) == 2) = true from beq_iff_eq.2 (by omega)]
            exact key
        · have key := wire_one_fix 0 a0 n (t / 8) (t % 8) hs (by omega) (by omega)
          rw [show ∀ x y : Fl × Nat × Nat, (if t % 8 = 0 ∨ t % 8 = 2 then x else y) = y from fun _ _ => if_neg h2]
          rw [if_neg (by omega), show (((t % 8 : Nat) : Int) == 2) = false from beq_eq_false_iff_ne.2 (by omega)]
          exact key
      · rw [if_neg (by rw [decide_eq_true_iff]; omega), if_pos hm]; rfl
    · rw [if_neg (by omega), if_pos he]; rfl
  · cases h
set_option maxHeartbeats 1000000 in
theorem wire_one_s.calls (a0 : ByteArray) (r1 : Int) (r2 : Int) (r3 : Int) (r4 : ByteArray) (r5 : Int) (r6 : Int) (w : World) (h : wire_one_s.f a0 = some (r1, r2, r3, r4, r5, r6)) :
    Calls Tryz.prog 69 #[.string a0] w fun e w' => e = .returned (.tuple #[.agg #[.int .i64 r1, .int .i64 r2, .int .u64 r3, .string r4], .int .i64 r5, .int .i64 r6]) ∧ Below w.heap.size w w' := by
  obtain ⟨k, hk⟩ := wire_one_s.ev a0 _ h
  exact wire_one.calls k a0 r1 r2 r3 r4 r5 r6 w hk
end Go.Proofs.YthidedmnmdlfkaaGreat.X
