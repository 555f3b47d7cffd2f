import Derived.Test.YtgmggompdidcoaaGreatDoorMPbtensorReads2
import Derived.Laws.FloatBits
import Derived.WalkLawsBesides
import Derived.Laws.Externs
namespace Go.Proofs.YtgmggompdidcoaaGreatDoor.X
open Go.RowKit Go.Proofs.YtgmggompdidcoaaGreatDoorW.aX Go.Proofs.YtgmggompdidcoaaGreatDoorW.bJ Go.Proofs.YtgmggompdidcoaaGreatDoorW.bK
attribute [local go_sem] bO bQ bS bU bM bN bP bR
set_option linter.unusedVariables false
set_option linter.unusedSimpArgs false
set_option maxHeartbeats 8000000
set_option maxRecDepth 100000
theorem Yl (v : Nat) : ∀ c ∈ tX v, c < 256 := by
 induction v using Nat.strongRecOn with
 | _ v ih =>
  by_cases h : v < 128
  · rw [TU h]; intro c hc; simp at hc; omega
  · rw [TT h]; intro c hc
    rcases List.mem_cons.1 hc with rfl | hc
    · omega
    · exact ih _ (by omega) c hc
theorem Cs (l : List Nat) (h : ∀ c ∈ l, c < 256) : ns (strOfNums (l.map Int.ofNat)) = l := by
 unfold ns strOfNums
 simp only [List.map_map]
 refine (List.map_congr_left (g := id) ?_).trans (List.map_id _)
 intro c hc
 have := h c hc
 simp [UInt8.toNat_ofNat']
 omega
theorem Kr (v : Nat) : ns (uT v) = tX v := Cs _ (Yl v)
theorem _9 (a b : ByteArray) : ns (a ++ b) = ns a ++ ns b := by
 simp [ns, ByteArray.data_append]
theorem UH {a b : ByteArray} (h : ns a = ns b) : a = b := by
 have : a.data.toList = b.data.toList := by
  unfold ns at h
  exact (List.map_inj_right (fun x y e => UInt8.toNat_inj.1 e)).1 h
 cases a; cases b; simp_all
theorem XG (s : ByteArray) (i j : Nat) : ns (s.extract i j) = ((ns s).drop i).take (j - i) := by
 simp [ns, ByteArray.data_extract, List.map_drop, List.map_take, Array.toList_extract, List.extract_eq_take_drop]
theorem ag (v : Nat) : (uT v).size = xH v := by rw [← vG, Kr, Dk]
theorem Yb (c m : Nat) (h : m * 9223372036854775808 < 18446744073709551616) : c % 128 * 72057594037927936 + m * 9223372036854775808 < 18446744073709551616 := by
 have hc : c % 128 * 72057594037927936 ≤ 127 * 72057594037927936 := Nat.mul_le_mul_right _ (by omega)
 have hm : m ≤ 1 := by
  rcases Nat.lt_or_ge m 2 with h2 | h2
  · omega
  · exact absurd (Nat.mul_le_mul_right 9223372036854775808 h2) (Nat.not_le.2 h)
 have hm2 : m * 9223372036854775808 ≤ 1 * 9223372036854775808 := Nat.mul_le_mul_right _ hm
 exact Nat.lt_of_le_of_lt (Nat.add_le_add hc hm2) (by decide)
theorem Yc {c : Nat} (h9 : ¬ (9 = 9 ∧ 1 < c)) (hc : ¬ c < 128) : False := by omega
theorem aAD : ∀ (l : List Nat) (n u y k : Nat), n ≤ 9 → (∀ c ∈ l, c < 256) → sM l n u = (y, k, 0) →
 ∃ m, y = u + m * 128 ^ n ∧ n + xH m ≤ k ∧ k ≤ n + l.length ∧ k ≤ 10 ∧ m * 128 ^ n < 18446744073709551616 ∧ (n + xH m = k → l.take (k - n) = tX m) := by
 intro l
 induction l with
 | nil => intro n u y k _ _ h; simp [sM] at h
 | cons c l ih =>
  intro n u y k hn hb h
  by_cases h9 : n = 9 ∧ 1 < c
  · rw [sM, ip h9] at h; simp at h
  · rw [XI (by omega)] at h
    have hp : 128 ^ (n + 1) = 128 * 128 ^ n := by rw [Nat.pow_succ, Nat.mul_comm]
    by_cases hc : c < 128
    · rw [ip hc] at h
      simp only [Prod.mk.injEq] at h
      obtain ⟨rfl, rfl, -⟩ := h
      refine ⟨c, rfl, by rw [PT hc]; omega, by simp, by omega, ?_, ?_⟩
      · rcases Nat.lt_or_ge n 9 with h | h
        · have h1 : 128 ^ n ≤ 128 ^ 8 := Nat.pow_le_pow_right (by decide) (by omega)
          have h2 : c * 128 ^ n ≤ 127 * 128 ^ 8 := Nat.mul_le_mul (by omega) h1
          omega
        · obtain rfl : n = 9 := by omega
          have h2 : c * 128 ^ 9 ≤ 1 * 128 ^ 9 := Nat.mul_le_mul_right _ (by omega)
          omega
      · intro _
        rw [TU hc, show n + 1 - n = 1 by omega]; rfl
    · rw [iN hc] at h
      have hb' := hb c (List.mem_cons_self ..)
      obtain ⟨m, h1, h2, h3, h4, h5, h6⟩ := ih (n + 1) _ y k (by omega) (fun x hx => hb x (List.mem_cons_of_mem _ hx)) h
      have hpos := Ff m
      have hm : (c % 128 + 128 * m) * 128 ^ n = c % 128 * 128 ^ n + m * 128 ^ (n + 1) := by
       rw [hp, Nat.add_mul, Nat.mul_comm 128 m, Nat.mul_assoc]
      refine ⟨c % 128 + 128 * m, by rw [hm]; omega, ?_, by simp; omega, h4, ?_, ?_⟩
      · by_cases hs : c % 128 + 128 * m < 128
        · rw [PT hs]; omega
        · rw [XW hs, show (c % 128 + 128 * m) / 128 = m by omega]; omega
      · rw [hm]
        rcases Nat.lt_or_ge n 8 with h8 | h8
        · have : n + 1 ≤ 8 := h8
          have hx : m * 128 ^ (n + 1) < 18446744073709551616 := h5
          have ha : c % 128 * 128 ^ n ≤ 127 * 128 ^ n := Nat.mul_le_mul_right _ (by omega)
          rw [hp] at hx ⊢
          have hq : 18446744073709551616 = 128 * 128 ^ n * (18446744073709551616 / (128 * 128 ^ n)) := by
           obtain rfl | rfl | rfl | rfl | rfl | rfl | rfl | rfl : n = 0 ∨ n = 1 ∨ n = 2 ∨ n = 3 ∨ n = 4 ∨ n = 5 ∨ n = 6 ∨ n = 7 := by omega
           all_goals decide
          generalize 18446744073709551616 / (128 * 128 ^ n) = z at hq
          generalize 128 ^ n = p at *
          have : m < z := by
           rcases Nat.lt_or_ge m z with h | h
           · exact h
           · have : 128 * p * z ≤ 128 * p * m := Nat.mul_le_mul_left _ h
             rw [Nat.mul_comm m] at hx
             omega
          have hz : (m + 1) * (128 * p) ≤ z * (128 * p) := Nat.mul_le_mul_right _ this
          rw [Nat.add_mul, Nat.one_mul] at hz
          rw [Nat.mul_comm z] at hz
          omega
        · clear h6 h ih
          have h8' : n = 8 ∨ n = 9 := by omega
          rcases h8' with rfl | rfl
          · exact Yb c m h5
          · exact (Yc h9 hc).elim
      · intro hk
        have hs : ¬ c % 128 + 128 * m < 128 := by
         intro hs
         rw [PT hs] at hk
         omega
        rw [XW hs, show (c % 128 + 128 * m) / 128 = m by omega] at hk
        rw [TT hs, show (c % 128 + 128 * m) / 128 = m by omega, show k - n = (k - (n + 1)) + 1 by omega, List.take_succ_cons, h6 (by omega)]
        congr 1; omega
theorem aAQ (b : ByteArray) (y k : Nat) (h : eD b = (y, k, 0)) : y < 18446744073709551616 ∧ xH y ≤ k ∧ k ≤ b.size ∧ k ≤ 10 ∧ (xH y = k → b.extract 0 k = uT y) := by
 obtain ⟨m, h1, h2, h3, h4, h5, h6⟩ := aAD (ns b) 0 0 y k (by omega) (oz b) h
 simp only [Nat.pow_zero, Nat.mul_one, Nat.zero_add] at *
 subst h1
 refine ⟨h5, h2, by rw [← vG]; exact h3, h4, fun e => UH ?_⟩
 rw [XG, Kr]
 simpa using h6 e
theorem fC {x : Int} (h0 : -9223372036854775808 ≤ x) (h1 : x < 9223372036854775808) : wrap64 x = x := by unfold wrap64; omega
theorem uM {x : Int} (h0 : 0 ≤ x) (h1 : x < 18446744073709551616) : IntKind.u64.wrap x = x := by rw [LD]; omega
def o8 : List Nat → Nat
 | [] => 0
 | c :: l => c + 256 * o8 l
theorem Ko (l : List Nat) (h : ∀ c ∈ l, c < 256) : o8 l < 256 ^ l.length := by
 induction l with
 | nil => simp [o8]
 | cons c l ih =>
  have h1 := ih (fun x hx => h x (List.mem_cons_of_mem _ hx))
  have h2 := h c (List.mem_cons_self ..)
  simp only [o8, List.length_cons, Nat.pow_succ]
  omega
theorem Zd (l : List Nat) (c : Nat) : o8 (l ++ [c]) = o8 l + c * 256 ^ l.length := by
 induction l with
 | nil => simp [o8]
 | cons d l ih =>
  simp only [List.cons_append, o8, ih, List.length_cons, Nat.pow_succ]
  rw [Nat.mul_add, Nat.add_assoc, Nat.mul_comm (256 ^ l.length) 256, ← Nat.mul_assoc c, Nat.mul_comm c 256, Nat.mul_assoc]
def IU (v n : Nat) : List Nat := (List.range n).map fun i => v / 256 ^ i % 256
theorem Dx (v n : Nat) : IU v (n + 1) = IU v n ++ [v / 256 ^ n % 256] := by simp [IU, List.range_succ]
theorem Ww (v n : Nat) : ∀ c ∈ IU v n, c < 256 := by
 intro c hc
 simp only [IU, List.mem_map] at hc
 obtain ⟨i, _, rfl⟩ := hc
 exact Nat.mod_lt _ (by decide)
theorem Cq (v n : Nat) : (IU v n).length = n := by simp [IU]
def xB (v n : Nat) : ByteArray := strOfNums ((IU v n).map Int.ofNat)
theorem Xu (v n : Nat) : ns (xB v n) = IU v n := Cs _ (Ww v n)
theorem _I (v n : Nat) : (xB v n).size = n := by rw [← vG, Xu, Cq]
theorem Tj (a b : List Int) : strOfNums (a ++ b) = strOfNums a ++ strOfNums b := by
 simp [strOfNums, ByteArray.append_eq, ByteArray.append, ByteArray.ext_iff, ByteArray.data_append]
theorem toList_nil {b : ByteArray} : b.toList = [] ↔ b.size = 0 := by
 rw [ByteArray.toList_eq]
 constructor
 · intro h; have := congrArg List.length h; simpa using this
 · intro h; exact List.eq_nil_of_length_eq_zero (by simpa using h)
theorem toList_inj {a b : ByteArray} : a.toList = b.toList ↔ a = b := by
 rw [ByteArray.toList_eq, ByteArray.toList_eq]
 constructor
 · intro h; cases a; cases b; simp_all
 · intro h; rw [h]
theorem Tw (v c i : Nat) (hv : v < 256 ^ i) (hi : i ≤ 7) (hc : c < 256) :
 Go.bits .or .u64 (v : Int) (shl .u64 (IntKind.u64.wrap (c : Int)) (wrap64 (8 * (i : Int)))) = ((v + c * 256 ^ i : Nat) : Int) := by
 have e0 : wrap64 (8 * (i : Int)) = ((8 * i : Nat) : Int) := by rw [fC (by omega) (by omega)]; omega
 have hp : (256 : Nat) ^ i = 2 ^ (8 * i) := by rw [Nat.pow_mul]
 have h1 : 256 ^ i ≤ 256 ^ 7 := Nat.pow_le_pow_right (by decide) hi
 have h2 : c * 256 ^ i ≤ 255 * 256 ^ i := Nat.mul_le_mul_right _ (by omega)
 have e1 : shl .u64 (IntKind.u64.wrap (c : Int)) (wrap64 (8 * (i : Int))) = ((c * 2 ^ (8 * i) : Nat) : Int) := by
  rw [e0, uM (by omega) (by omega)]
  show IntKind.u64.wrap ((c : Int) * 2 ^ min ((8 * i : Nat) : Int).toNat 64) = _
  rw [Int.toNat_natCast, Nat.min_eq_left (by omega), uM]
  · simp
  · exact Int.mul_nonneg (by omega) (Int.pow_nonneg (by decide))
  · have : ((c : Int) * 2 ^ (8 * i)) = ((c * 2 ^ (8 * i) : Nat) : Int) := by simp
    rw [this, ← hp]; omega
 rw [e1, u64_or_nat _ _ (by omega) (by rw [← hp]; omega), Nat.or_comm, Nat.mul_comm, ← Nat.two_pow_add_eq_or_of_lt (by rw [← hp]; exact hv), ← hp, Nat.mul_comm, Nat.add_comm]
theorem aCC (x : Nat) (h : x < 18446744073709551616) : IntKind.u64.wrap (Int.tdiv (x : Int) 256) = ((x / 256 : Nat) : Int) := by
 rw [Int.tdiv_eq_ediv_of_nonneg (by omega), uM (by omega) (by omega)]; omega
def SL.f (a0 : ByteArray) : Option (Int) := if 0 < (a0.size : Int) then (if 1 < (a0.size : Int) then (if 2 < (a0.size : Int) then (if 3 < (a0.size : Int) then (some (Go.bits .or .u32 (Go.bits .or .u32 (Go.bits .or .u32 ((bt a0 0) % 4294967296) ((((bt a0 1) % 4294967296) * 256) % 4294967296)) ((((bt a0 2) % 4294967296) * 65536) % 4294967296)) ((((bt a0 3) % 4294967296) * 16777216) % 4294967296))) else (none)) else (none)) else (none)) else (none)
theorem SL.calls (a0 : ByteArray) (r : Int) (w : World) (h : SL.f a0 = some r) :
 Calls Tryz.prog 102 #[.string a0] w fun e w' => e = .returned (.int .u32 r) ∧ fG w w' := by
 have H : (if 0 < (a0.size : Int) then (if 1 < (a0.size : Int) then (if 2 < (a0.size : Int) then (if 3 < (a0.size : Int) then (some (Go.bits .or .u32 (Go.bits .or .u32 (Go.bits .or .u32 ((bt a0 0) % 4294967296) ((((bt a0 1) % 4294967296) * 256) % 4294967296)) ((((bt a0 2) % 4294967296) * 65536) % 4294967296)) ((((bt a0 3) % 4294967296) * 16777216) % 4294967296))) else (none)) else (none)) else (none)) else (none)) = some r := h; clear h
 by_cases c2 : 0 < (a0.size : Int)
 · rw [ip c2] at H
   have iZ := dT c2; have nZ : decide (0 < a0.size) = true := dT (by omega); clear c2
   by_cases c4 : 1 < (a0.size : Int)
   · rw [ip c4] at H
     have fP := dT c4; have oN : decide (1 < a0.size) = true := dT (by omega); clear c4
     by_cases c6 : 2 < (a0.size : Int)
     · rw [ip c6] at H
       have kP := dT c6; have wD : decide (2 < a0.size) = true := dT (by omega); clear c6
       by_cases c8 : 3 < (a0.size : Int)
       · rw [ip c8] at H
         have mG := dT c8; have EA : decide (3 < a0.size) = true := dT (by omega); clear c8; obtain rfl := Option.some.inj H; have p3 : 0 ≤ (0 : Int) := (by omega); have q3 : 0 < a0.size := (by have : (0 : Int) < (a0.size : Int) := aK; omega); have hx3 : ∀ h : 0 < a0.size, ((a0[0]'h).toNat : Int) = bt a0 0 := fE a0 0; clear p3; have qi3 : (0 < (a0.size : Int)) = True := eT (aK); replace q3 := eT q3; have p5 : 0 ≤ (1 : Int) := (by omega); have q5 : 1 < a0.size := (by have : (1 : Int) < (a0.size : Int) := aK; omega); have hx5 : ∀ h : 1 < a0.size, ((a0[1]'h).toNat : Int) = bt a0 1 := fE a0 1; clear p5; have qi5 : (1 < (a0.size : Int)) = True := eT (aK); replace q5 := eT q5; have p7 : 0 ≤ (2 : Int) := (by omega); have q7 : 2 < a0.size := (by have : (2 : Int) < (a0.size : Int) := aK; omega); have hx7 : ∀ h : 2 < a0.size, ((a0[2]'h).toNat : Int) = bt a0 2 := fE a0 2; clear p7; have Be : (2 < (a0.size : Int)) = True := eT (aK); replace q7 := eT q7; have p9 : 0 ≤ (3 : Int) := (by omega); have q9 : 3 < a0.size := (by have : (3 : Int) < (a0.size : Int) := aK; omega); have hx9 : ∀ h : 3 < a0.size, ((a0[3]'h).toNat : Int) = bt a0 3 := fE a0 3; clear p9; have qi9 : (3 < (a0.size : Int)) = True := eT (aK); replace q9 := eT q9
         go_enter Tryz.func102, Tryz.ntmps102
         go_wp2
         repeat (go_quiet (fail); try go_wp2)
         go_ret
         exact dW
       · rw [iN c8] at H; exact uD H
     · rw [iN c6] at H; exact uD H
   · rw [iN c4] at H; exact uD H
 · rw [iN c2] at H; exact uD H
def wd (b : ByteArray) : Nat := ((bt b 0) + (bt b 1) * 256 + (bt b 2) * 65536 + (bt b 3) * 16777216).toNat
theorem qg (b : ByteArray) : ((wd b : Nat) : Int) = (bt b 0) + (bt b 1) * 256 + (bt b 2) * 65536 + (bt b 3) * 16777216 := by
 have h0 := xA b 0
 have h1 := xA b 1
 have h2 := xA b 2
 have h3 := xA b 3
 unfold wd; omega
theorem ZM (b : ByteArray) : wd b < 4294967296 := by
 have h := qg b
 have h0 := xA b 0
 have h1 := xA b 1
 have h2 := xA b 2
 have h3 := xA b 3
 omega
theorem lq (x y : Int) (i : Nat) (hx0 : 0 ≤ x) (hx : x < 2 ^ i) (hy0 : 0 ≤ y) (hy : y % 2 ^ i = 0) (hx1 : x < 4294967296) (hy1 : y < 4294967296) : Go.bits .or .u32 x y = x + y := by
 have hc : Go.bits .or .u32 x y = Go.bits .or .u32 y x := by simp only [Go.bits, BitVec.or_comm]
 rw [hc, bits_join .u32 32 (by decide) (fun n h0 h1 => by rw [IntKind.wrap_u32]; omega) i y x hy0 hy (by omega) hx0 hx (by omega)]
 omega
theorem Ym (b : ByteArray) (h : 4 ≤ b.size) : wd (b.extract 0 4) = wd b := by
 have e : ∀ i : Nat, i < 4 → bt (b.extract 0 4) (i : Int) = bt b (i : Int) := by
  intro i hi
  have h1 : i < (b.extract 0 4).size := by rw [ByteArray.size_extract]; omega
  have h2 : i < b.size := by omega
  unfold bt
  simp only [Int.toNat_natCast]
  rw [dif_pos h1, dif_pos h2, ByteArray.getElem_extract]
  simp only [Nat.zero_add]
 unfold wd
 rw [show (0 : Int) = ((0 : Nat) : Int) from rfl, show (1 : Int) = ((1 : Nat) : Int) from rfl, show (2 : Int) = ((2 : Nat) : Int) from rfl, show (3 : Int) = ((3 : Nat) : Int) from rfl, e 0 (by decide), e 1 (by decide), e 2 (by decide), e 3 (by decide)]
def JM.f (a0 : ByteArray) : Option Int := if 4 ≤ a0.size then some (wd a0 : Int) else none
theorem JM.ev (a0 : ByteArray) (r) (h : JM.f a0 = some r) : ∃ k : Nat, SL.f a0 = some r := by
 refine ⟨0, ?_⟩
 unfold JM.f at h
 split at h
 · rename_i hs
   rw [← h]
   unfold SL.f
   have h0 := xA a0 0
   have h1 := xA a0 1
   have h2 := xA a0 2
   have h3 := xA a0 3
   rw [ip (by omega), ip (by omega), ip (by omega), ip (by omega), qg]
   generalize bt a0 0 = x0 at *
   generalize bt a0 1 = x1 at *
   generalize bt a0 2 = x2 at *
   generalize bt a0 3 = x3 at *
   rw [show x0 % 4294967296 = x0 by omega, show x1 % 4294967296 * 256 % 4294967296 = x1 * 256 by omega, show x2 % 4294967296 * 65536 % 4294967296 = x2 * 65536 by omega, show x3 % 4294967296 * 16777216 % 4294967296 = x3 * 16777216 by omega,
    lq x0 (x1 * 256) 8 (by omega) (by omega) (by omega) (by omega) (by omega) (by omega), lq (x0 + x1 * 256) (x2 * 65536) 16 (by omega) (by omega) (by omega) (by omega) (by omega) (by omega), lq (x0 + x1 * 256 + x2 * 65536) (x3 * 16777216) 24 (by omega) (by omega) (by omega) (by omega) (by omega) (by omega)]
 · cases h
theorem JM.calls (a0 : ByteArray) (r : Int) (w : World) (h : JM.f a0 = some r) :
 Calls Tryz.prog 102 #[.string a0] w fun e w' => e = .returned (.int .u32 r) ∧ fG w w' := by
 obtain ⟨k, hk⟩ := JM.ev a0 _ h
 exact SL.calls a0 r w hk
theorem Cr (m j : Nat) (h : m ≠ 0) : (m * 2 ^ j).log2 = m.log2 + j := by
 have h1 : m * 2 ^ j ≠ 0 := Nat.mul_ne_zero h (Nat.pos_iff_ne_zero.1 (Nat.two_pow_pos j))
 rw [Nat.log2_eq_iff h1, Nat.pow_add, show m.log2 + j + 1 = (m.log2 + 1) + j by omega, Nat.pow_add]
 have := (Nat.log2_eq_iff h).1 rfl
 exact ⟨Nat.mul_le_mul_right _ this.1, (Nat.mul_lt_mul_right (Nat.two_pow_pos j)).2 this.2⟩
theorem PE (way : Ieee.Toward) (s : Bool) (n : Nat) : way.cut s n 0 = n := by
 unfold Ieee.Toward.cut
 have e : 1 <<< min 0 (n.log2 + 2) = 1 := by rw [Nat.zero_min]; rfl
 simp only [e, Nat.div_one, Nat.mod_one]
 cases way <;> simp
theorem Gc (s : Bool) (n j d : Nat) (hn : n ≠ 0) : Ieee.Toward.even.cut s (n * 2 ^ j) (d + j) = Ieee.Toward.even.cut s n d := by
 have hj : 0 < 2 ^ j := Nat.two_pow_pos j
 unfold Ieee.Toward.cut
 rw [Cr n j hn, show min (d + j) (n.log2 + j + 2) = min d (n.log2 + 2) + j by omega, Nat.one_shiftLeft, Nat.one_shiftLeft, Nat.pow_add]
 generalize 2 ^ min d (n.log2 + 2) = g
 simp only [Nat.mul_div_mul_right _ _ hj, Nat.mul_mod_mul_right]
 congr 2
 have e1 : (g * 2 ^ j < 2 * (n % g * 2 ^ j)) ↔ (g < 2 * (n % g)) := by
  rw [← Nat.mul_assoc]; exact Nat.mul_lt_mul_right hj
 have e2 : (g * 2 ^ j = 2 * (n % g * 2 ^ j)) ↔ (g = 2 * (n % g)) := by
  rw [← Nat.mul_assoc]; exact ⟨fun h => Nat.eq_of_mul_eq_mul_right hj h, fun h => by rw [← h]⟩
 rw [decide_eq_decide.2 e1]
 congr 2
 rw [Bool.eq_iff_iff, beq_iff_eq, beq_iff_eq]; exact e2
theorem aAh (s : Bool) (n j : Nat) (hn : n ≠ 0) : Ieee.Toward.even.cut s (n * 2 ^ j) j = n := by
 have := Gc s n j 0 hn
 rw [Nat.zero_add, PE] at this; exact this
theorem Ci (f : Ieee.Format) (s : Bool) (m j : Nat) (p : Int) : f.nearest s (m * 2 ^ j) p = f.nearest s m (p + j) := by
 by_cases hm : m = 0
 · subst hm; rw [Nat.zero_mul]; unfold Ieee.Format.nearest; rw [ip rfl, ip rfl]
 have hm' : m * 2 ^ j ≠ 0 := Nat.mul_ne_zero hm (Nat.pos_iff_ne_zero.1 (Nat.two_pow_pos j))
 unfold Ieee.Format.nearest
 rw [iN hm, iN hm', Cr m j hm, show p + ((m.log2 + j : Nat) : Int) = p + j + (m.log2 : Int) by omega]
 generalize max (p + j + (m.log2 : Int) - f.fractionBits) f.leastPlace = last
 have key : Ieee.Toward.even.cut s ((m * 2 ^ j) <<< (p - last).toNat) (last - p).toNat = Ieee.Toward.even.cut s (m <<< (p + j - last).toNat) (last - (p + j)).toNat := by
  rw [Nat.shiftLeft_eq, Nat.shiftLeft_eq]
  by_cases h1 : last ≤ p
  · rw [show (last - p).toNat = 0 by omega, show (last - (p + j)).toNat = 0 by omega, PE, PE, Nat.mul_assoc, ← Nat.pow_add]
    congr 2; omega
  · by_cases h2 : p + j ≤ last
    · rw [show (p - last).toNat = 0 by omega, show (p + j - last).toNat = 0 by omega, Nat.pow_zero, Nat.mul_one, Nat.mul_one, show (last - p).toNat = (last - (p + j)).toNat + j by omega, Gc s m j _ hm]
    · rw [show (p - last).toNat = 0 by omega, show (last - (p + j)).toNat = 0 by omega, Nat.pow_zero, Nat.mul_one, PE]
      have e : m * 2 ^ j = (m * 2 ^ (p + j - last).toNat) * 2 ^ (last - p).toNat := by
       rw [Nat.mul_assoc, ← Nat.pow_add]; congr 2; omega
      rw [e, aAh]
      exact Nat.mul_ne_zero hm (Nat.pos_iff_ne_zero.1 (Nat.two_pow_pos _))
 simp only [key]
def Num (f : Ieee.Format) (b : Nat) (s : Bool) (V : Nat) : Prop := ∃ m p, f.read b = .number s m p ∧ f.leastPlace ≤ p ∧ m * 2 ^ (p - f.leastPlace).toNat = V
theorem Ur (f : Ieee.Format) (s : Bool) (m k : Nat) (p q : Int) (hp : f.leastPlace ≤ p) (hq : f.leastPlace ≤ q) (h : m * 2 ^ (p - f.leastPlace).toNat = k * 2 ^ (q - f.leastPlace).toNat) : f.nearest s m p = f.nearest s k q := by
 by_cases hpq : p ≤ q
 · have e : m = k * 2 ^ (q - p).toNat := by
    refine Nat.eq_of_mul_eq_mul_right (Nat.two_pow_pos (p - f.leastPlace).toNat) ?_
    rw [h, Nat.mul_assoc, ← Nat.pow_add]; congr 2; omega
   rw [e, Ci]; congr 1; omega
 · have e : k = m * 2 ^ (p - q).toNat := by
    refine Nat.eq_of_mul_eq_mul_right (Nat.two_pow_pos (q - f.leastPlace).toNat) ?_
    rw [← h, Nat.mul_assoc, ← Nat.pow_add]; congr 2; omega
   rw [e, Ci]; congr 1; omega
theorem Fa (f : Ieee.Format) (s : Bool) (r : Nat) (h : r < f.signWeight) : (f.word s r / f.signWeight % 2 == 1) = s ∧ f.word s r % f.signWeight = r := by
 have hw : 0 < f.signWeight := Nat.two_pow_pos _
 unfold Ieee.Format.word
 cases s
 · rw [iN (by simp), Nat.div_eq_of_lt h, Nat.mod_eq_of_lt h]; exact ⟨rfl, rfl⟩
 · rw [ip rfl, Nat.add_div_left _ hw, Nat.div_eq_of_lt h, Nat.add_mod_left, Nat.mod_eq_of_lt h]; exact ⟨rfl, rfl⟩
theorem Zz (f : Ieee.Format) (s : Bool) (p : Int) : f.nearest s 0 p = f.word s 0 := by unfold Ieee.Format.nearest; rw [ip rfl]
theorem aAy (f : Ieee.Format) (s : Bool) : Num f (f.word s 0) s 0 := by
 obtain ⟨h1, h2⟩ := Fa f s 0 (Nat.two_pow_pos _)
 refine ⟨0, f.leastPlace, ?_, Int.le_refl _, Nat.zero_mul _⟩
 unfold Ieee.Format.read
 rw [h1, h2]
 exact ip (Nat.two_pow_pos _)
theorem De (f : Ieee.Format) (s : Bool) (m : Nat) (p : Int) (hp : f.leastPlace ≤ p) (hm : m < 2 ^ (f.fractionBits + 1)) (ht : (p + m.log2 - f.fractionBits - f.leastPlace).toNat + 3 ≤ 2 ^ f.exponentBits) :
 Num f (f.nearest s m p) s (m * 2 ^ (p - f.leastPlace).toNat) := by
 by_cases h0 : m = 0
 · subst h0; rw [Zz, Nat.zero_mul]; exact aAy f s
 have hl := (Nat.log2_eq_iff h0).1 rfl
 have hlf : m.log2 ≤ f.fractionBits := by
  have : 2 ^ m.log2 < 2 ^ (f.fractionBits + 1) := Nat.lt_of_le_of_lt hl.1 hm
  have := (Nat.pow_lt_pow_iff_right (by decide : 1 < 2)).1 this
  omega
 unfold Ieee.Format.nearest
 rw [iN h0]
 have hlast : max (p + (m.log2 : Int) - f.fractionBits) f.leastPlace ≤ p := by omega
 generalize hL : max (p + (m.log2 : Int) - f.fractionBits) f.leastPlace = last at hlast ⊢
 have hll : f.leastPlace ≤ last := by omega
 simp only [show (last - p).toNat = 0 by omega, PE, Nat.shiftLeft_eq]
 have hB : f.binade = 2 ^ f.fractionBits := rfl
 have hK2 : m * 2 ^ (p - last).toNat < 2 * f.binade := by
  have h1 : m * 2 ^ (p - last).toNat < 2 ^ (m.log2 + 1) * 2 ^ (p - last).toNat := (Nat.mul_lt_mul_right (Nat.two_pow_pos _)).2 hl.2
  rw [← Nat.pow_add] at h1
  have h2 : 2 ^ (m.log2 + 1 + (p - last).toNat) ≤ 2 ^ (f.fractionBits + 1) := Nat.pow_le_pow_right (by decide) (by omega)
  rw [Nat.pow_succ] at h2
  rw [hB]; omega
 have hK1 : f.leastPlace < last → f.binade ≤ m * 2 ^ (p - last).toNat := by
  intro h
  have h1 : 2 ^ m.log2 * 2 ^ (p - last).toNat ≤ m * 2 ^ (p - last).toNat := Nat.mul_le_mul_right _ hl.1
  rw [← Nat.pow_add, show m.log2 + (p - last).toNat = f.fractionBits by omega] at h1
  exact h1
 have hV : m * 2 ^ (p - f.leastPlace).toNat = (m * 2 ^ (p - last).toNat) * 2 ^ (last - f.leastPlace).toNat := by
  rw [Nat.mul_assoc, ← Nat.pow_add]; congr 2; omega
 rw [hV]
 have hq : (last - f.leastPlace).toNat + 3 ≤ 2 ^ f.exponentBits := by omega
 generalize hKe : m * 2 ^ (p - last).toNat = K at *
 generalize hqe : (last - f.leastPlace).toNat = q at *
 have Y_ : 0 < f.binade := Nat.two_pow_pos _
 have hr : q * f.binade + K < f.infRung := by
  unfold Ieee.Format.infRung
  have h1 : (q + 2) * f.binade ≤ (2 ^ f.exponentBits - 1) * f.binade := Nat.mul_le_mul_right _ (by omega)
  rw [Nat.add_mul] at h1; omega
 rw [Nat.min_eq_left (Nat.le_of_lt hr)]
 have hsw := f.infRung_lt
 obtain ⟨r1, r2⟩ := Fa f s (q * f.binade + K) (by omega)
 unfold Num Ieee.Format.read
 rw [r1, r2]
 by_cases hqz : q = 0
 · subst hqz
   rw [Nat.zero_mul, Nat.zero_add] at hr ⊢
   by_cases hs : K < f.binade
   · exact ⟨K, f.leastPlace, ip hs, Int.le_refl _, by rw [Int.sub_self]; rfl⟩
   · refine ⟨f.binade + K % f.binade, f.leastPlace + (K / f.binade - 1 : Nat), ?_, by omega, ?_⟩
     · show (if K < f.binade then _ else if K < f.infRung then _ else _) = _
       rw [iN hs, ip hr]
     · have hd : K / f.binade = 1 := by
        rw [Nat.div_eq_iff Y_]; omega
       have := Nat.div_add_mod K f.binade
       rw [hd, Nat.mul_one] at this
       rw [hd, this, show (f.leastPlace + ((1 - 1 : Nat) : Int) - f.leastPlace).toNat = 0 by omega]
 · have hK := hK1 (by omega)
   have hd : (q * f.binade + K) / f.binade = q + 1 := by
    rw [Nat.mul_comm, Nat.mul_add_div Y_]
    have : K / f.binade = 1 := by rw [Nat.div_eq_iff Y_]; omega
    omega
   have hm' : f.binade + (q * f.binade + K) % f.binade = K := by
    rw [Nat.mul_comm, Nat.mul_add_mod]
    have h1 : K / f.binade = 1 := by rw [Nat.div_eq_iff Y_]; omega
    have := Nat.div_add_mod K f.binade
    rw [h1, Nat.mul_one] at this; exact this
   refine ⟨f.binade + (q * f.binade + K) % f.binade, f.leastPlace + ((q * f.binade + K) / f.binade - 1 : Nat), ?_, by omega, ?_⟩
   · show (if q * f.binade + K < f.binade then _ else if q * f.binade + K < f.infRung then _ else _) = _
     have : f.binade ≤ q * f.binade := Nat.le_mul_of_pos_left _ (by omega)
     rw [iN (by omega), ip hr]
   · rw [hm', hd, show (f.leastPlace + ((q + 1 - 1 : Nat) : Int) - f.leastPlace).toNat = q by omega]
def kQ (s : Bool) (V : Nat) : Int := if s then -(V : Int) else (V : Int)
theorem Kv (s : Bool) (a k : Nat) : kQ s (a * k) = kQ s a * (k : Int) := by
 unfold kQ; cases s <;> simp [Int.neg_mul]
theorem Ea (s : Bool) (m a : Nat) : Ieee.signed s m a = kQ s (m * 2 ^ a) := by
 unfold Ieee.signed kQ; rw [Nat.shiftLeft_eq]
theorem jd (s : Bool) (V : Nat) : (kQ s V).natAbs = V := by unfold kQ; cases s <;> simp
theorem Uo (a b : Int) (k : Nat) (hk : 0 < k) : compare (a * (k : Int)) (b * (k : Int)) = compare a b := by
 have hk' : (0 : Int) < (k : Int) := by omega
 show compareOfLessAndEq _ _ = compareOfLessAndEq _ _
 unfold compareOfLessAndEq
 by_cases h1 : a < b
 · rw [ip h1, ip (Int.mul_lt_mul_of_pos_right h1 hk')]
 · rw [iN h1, iN (fun g => h1 (Int.lt_of_mul_lt_mul_right g (Int.le_of_lt hk')))]
   by_cases h2 : a = b
   · rw [ip h2, ip (by rw [h2])]
   · rw [iN h2, iN (fun g => h2 (Int.eq_of_mul_eq_mul_right (by omega) g))]
theorem XL {f : Ieee.Format} {x y : Nat} {s t : Bool} {V W : Nat} (hx : Num f x s V) (hy : Num f y t W) : f.order x y = some (compare (kQ s V) (kQ t W)) := by
 obtain ⟨m, i, e1, hi, rfl⟩ := hx
 obtain ⟨n, j, e2, hj, rfl⟩ := hy
 unfold Ieee.Format.order
 rw [e1, e2]
 show some (compare (Ieee.signed s m (i - min i j).toNat) (Ieee.signed t n (j - min i j).toNat)) = _
 rw [Ea, Ea, ← Uo _ _ (2 ^ (min i j - f.leastPlace).toNat) (Nat.two_pow_pos _), ← Kv, ← Kv, Nat.mul_assoc, Nat.mul_assoc, ← Nat.pow_add, ← Nat.pow_add]
 rw [show (i - min i j).toNat + (min i j - f.leastPlace).toNat = (i - f.leastPlace).toNat by omega, show (j - min i j).toNat + (min i j - f.leastPlace).toNat = (j - f.leastPlace).toNat by omega]
theorem Ye {f : Ieee.Format} {b : Nat} {s : Bool} {m : Nat} {p : Int} (h : f.read b = .number s m p) : m < 2 * f.binade ∧ f.leastPlace ≤ p := by
 have hB : 0 < f.binade := Nat.two_pow_pos _
 unfold Ieee.Format.read at h
 dsimp only at h
 split at h
 · cases h; rename_i hr; exact ⟨by omega, Int.le_refl _⟩
 · split at h
   · cases h
     have := Nat.mod_lt (b % f.signWeight) hB
     exact ⟨by omega, by omega⟩
   · split at h <;> cases h
theorem dl : Ieee.double.leastPlace = -1074 := by decide
theorem sl : Ieee.single.leastPlace = -149 := by decide
def mM : Nat := 2 ^ 1074
theorem PU : mM = 2 ^ 1074 := by unfold mM; rfl
def dI (s : Bool) (k : Nat) : Nat := Ieee.double.nearest s k 0
def I1 (x : Nat) (s : Bool) (k : Nat) : Prop := Num Ieee.double x s (k * mM)
theorem UB (s : Bool) (k : Nat) (hk : k < 9007199254740992) : I1 (dI s k) s k := by
 have := De Ieee.double s k 0 (by rw [dl]; decide) (by show k < 2 ^ 53; exact hk) (by
  rw [dl]
  have hl : k.log2 ≤ 52 := by
   by_cases h0 : k = 0
   · subst h0; decide
   · have := (Nat.log2_lt h0).2 (show k < 2 ^ 53 from hk); omega
  show ((0 : Int) + (k.log2 : Int) - ((52 : Nat) : Int) - (-1074)).toNat + 3 ≤ 2 ^ 11
  omega)
 rw [dl] at this
 rw [show ((0 : Int) - (-1074)).toNat = 1074 from rfl, ← PU] at this
 exact this
theorem aEb {s : Bool} {m k : Nat} {p : Int} (hp : -1074 ≤ p) (h : m * 2 ^ (p + 1074).toNat = k * mM) : Ieee.double.nearest s m p = dI s k :=
 Ur Ieee.double s m k p 0 (by rw [dl]; exact hp) (by rw [dl]; decide) (by rw [dl, Int.sub_neg, h, show ((0 : Int) - (-1074)).toNat = 1074 from rfl, ← PU])
theorem ai : 0 < mM := by rw [PU]; exact Nat.two_pow_pos 1074
theorem aAi (s : Bool) (n d : Nat) : Ieee.Toward.zero.cut s n d = n / 2 ^ d := by
 unfold Ieee.Toward.cut
 show n / 1 <<< min d (n.log2 + 2) + 0 = _
 rw [Nat.add_zero, Nat.one_shiftLeft]
 by_cases h : d ≤ n.log2 + 2
 · rw [Nat.min_eq_left h]
 · rw [Nat.min_eq_right (by omega)]
   have h1 : n < 2 ^ (n.log2 + 2) := by
    by_cases h0 : n = 0
    · subst h0; exact Nat.two_pow_pos _
    · have := ((Nat.log2_eq_iff h0).1 rfl).2
      exact Nat.lt_of_lt_of_le this (Nat.pow_le_pow_right (by decide) (by omega))
   have h2 : n < 2 ^ d := Nat.lt_of_lt_of_le h1 (Nat.pow_le_pow_right (by decide) (by omega))
   rw [Nat.div_eq_of_lt h1, Nat.div_eq_of_lt h2]
def D6 (x : Nat) : Nat := Ieee.double.write ((Ieee.double.read x).integral .zero)
def OC (x : Nat) : Bool := decide (x % 18446744073709551616 ≥ 9223372036854775808)
def mZ (x : Nat) : Bool :=
 (Ieee.double.order x 13920626448202203136 == some .gt || Ieee.double.order x 13920626448202203136 == some .eq) &&
 ((Ieee.double.order x 4697254411347427328 == some .lt || Ieee.double.order x 4697254411347427328 == some .eq) &&
 (Ieee.double.order x (D6 x) == some .eq && !(Ieee.double.order x 0 == some .eq && OC x)))
theorem cN : I1 13920626448202203136 true 1048576 := by
 have h := UB true 1048576 (by decide)
 rwa [show dI true 1048576 = 13920626448202203136 by decide +kernel] at h
theorem cP : I1 4697254411347427328 false 1048576 := by
 have h := UB false 1048576 (by decide)
 rwa [show dI false 1048576 = 4697254411347427328 by decide +kernel] at h
theorem cZ : I1 0 false 0 := by
 have h := UB false 0 (by decide)
 rwa [show dI false 0 = 0 by decide +kernel] at h
theorem Zw {x : Nat} {s : Bool} {V : Nat} (h : Num Ieee.double x s V) : D6 x = dI s (V / mM) := by
 obtain ⟨m, p, h1, h2, rfl⟩ := h
 unfold D6
 rw [h1]
 show Ieee.double.nearest s (Ieee.Toward.zero.cut s (m <<< p.toNat) (-p).toNat) 0 = _
 rw [aAi, Nat.shiftLeft_eq, dl, Int.sub_neg]
 rw [dl] at h2
 unfold dI
 congr 1
 by_cases hp : 0 ≤ p
 · rw [show (-p).toNat = 0 by omega, Nat.pow_zero, Nat.div_one, show (p + 1074).toNat = p.toNat + 1074 by omega, Nat.pow_add, ← PU, ← Nat.mul_assoc, Nat.mul_div_cancel _ ai]
 · have e : mM = 2 ^ (-p).toNat * 2 ^ (p + 1074).toNat := by
    rw [← Nat.pow_add, PU, show (-p).toNat + (p + 1074).toNat = 1074 by omega]
   rw [e, Nat.mul_div_mul_right _ _ (Nat.two_pow_pos _), show p.toNat = 0 by omega, Nat.pow_zero, Nat.mul_one]
theorem aAK {x : Nat} {s : Bool} {V : Nat} (hx : x < 18446744073709551616) (h : Num Ieee.double x s V) : OC x = s := by
 obtain ⟨m, p, h1, _, _⟩ := h
 have h2 : (x / Ieee.double.signWeight % 2 == 1) = s := by
  unfold Ieee.Format.read at h1
  dsimp only at h1
  split at h1
  · cases h1; rfl
  · split at h1
    · cases h1; rfl
    · split at h1 <;> cases h1
 have hw : Ieee.double.signWeight = 9223372036854775808 := by decide
 rw [hw] at h2
 unfold OC
 rw [← h2, Nat.mod_eq_of_lt hx, Bool.eq_iff_iff, decide_eq_true_iff, beq_iff_eq]
 omega
theorem aCS (a b : Int) : (some (compare a b) == some Ordering.gt || some (compare a b) == some Ordering.eq) = decide (b ≤ a) := by
 show (some (compareOfLessAndEq a b) == some Ordering.gt || some (compareOfLessAndEq a b) == some Ordering.eq) = _
 unfold compareOfLessAndEq
 by_cases h : a < b
 · rw [ip h, dF (by omega)]; rfl
 · rw [iN h, dT (by omega)]
   split <;> rfl
theorem aCT (a b : Int) : (some (compare a b) == some Ordering.lt || some (compare a b) == some Ordering.eq) = decide (a ≤ b) := by
 show (some (compareOfLessAndEq a b) == some Ordering.lt || some (compareOfLessAndEq a b) == some Ordering.eq) = _
 unfold compareOfLessAndEq
 by_cases h : a < b
 · rw [ip h, dT (by omega)]; rfl
 · rw [iN h]
   by_cases h2 : a = b
   · rw [ip h2, dT (by omega)]; rfl
   · rw [iN h2, dF (by omega)]; rfl
theorem cmp_eq (a b : Int) : (some (compare a b) == some Ordering.eq) = decide (a = b) := by
 show (some (compareOfLessAndEq a b) == some Ordering.eq) = _
 unfold compareOfLessAndEq
 by_cases h : a < b
 · rw [ip h, dF (by omega)]; rfl
 · rw [iN h]
   by_cases h2 : a = b
   · rw [ip h2, dT h2]; rfl
   · rw [iN h2, dF h2]; rfl
theorem Et {x y : Nat} {s t : Bool} {W : Nat} (hx : Ieee.double.read x = .infinity s) (hy : Num Ieee.double y t W) : Ieee.double.order x y = some (if s then .lt else .gt) := by
 obtain ⟨m, p, h1, _, _⟩ := hy
 unfold Ieee.Format.order
 rw [hx, h1]; rfl
theorem Eu {x y : Nat} {s : Bool} {n : Nat} (hx : Ieee.double.read x = .nan s n) : Ieee.double.order x y = none := by
 unfold Ieee.Format.order
 rw [hx]; rfl
theorem aCA (s : Bool) (V W : Nat) : kQ s V = kQ s W ↔ V = W := by unfold kQ; cases s <;> simp <;> omega
theorem Lx (s : Bool) (V K : Nat) : (kQ true K ≤ kQ s V ∧ kQ s V ≤ kQ false K) ↔ V ≤ K := by
 unfold kQ; cases s <;> simp <;> omega
theorem XU {x : Nat} {s : Bool} {V : Nat} (hx : x < 18446744073709551616) (h : Num Ieee.double x s V) : mZ x = (decide (V ≤ 1048576 * mM) && (decide (V / mM * mM = V) && (decide (V ≠ 0) || !s))) := by
 unfold mZ
 rw [XL h cN, XL h cP, XL h cZ, aCS, aCT, aAK hx h]
 have hU := ai
 by_cases hV : V ≤ 1048576 * mM
 · have hle := (Lx s V (1048576 * mM)).2 hV
   have ht : I1 (D6 x) s (V / mM) := by
    rw [Zw h]
    refine UB s _ ?_
    have : V / mM ≤ 1048576 := by rw [Nat.mul_comm] at hV; exact Nat.div_le_of_le_mul hV
    omega
   rw [XL h ht, cmp_eq, cmp_eq, dT hle.1, dT hle.2, dT hV, Bool.true_and, Bool.true_and, Bool.true_and]
   have e1 : (kQ s V = kQ s (V / mM * mM)) ↔ V / mM * mM = V := (aCA s _ _).trans eq_comm
   have e2 : (kQ s V = kQ false (0 * mM)) ↔ V = 0 := by unfold kQ; cases s <;> simp <;> omega
   rw [decide_eq_decide.2 e1, decide_eq_decide.2 e2]
   by_cases h0 : V = 0
   · rw [dT h0, dF (fun g : V ≠ 0 => g h0), Bool.true_and, Bool.false_or]
   · rw [dF h0, dT (show V ≠ 0 from h0), Bool.false_and, Bool.true_or]; rfl
 · have hle : ¬ (kQ true (1048576 * mM) ≤ kQ s V ∧ kQ s V ≤ kQ false (1048576 * mM)) := fun g => hV ((Lx s V (1048576 * mM)).1 g)
   rw [dF hV, Bool.false_and]
   by_cases g : kQ true (1048576 * mM) ≤ kQ s V
   · rw [dT g, dF (fun g2 => hle ⟨g, g2⟩)]; rfl
   · rw [dF g]; rfl
theorem Gn {x : Nat} {s : Bool} {k : Nat} (hx : x < 18446744073709551616) (h : I1 x s k) : mZ x = (decide (k ≤ 1048576) && (decide (k ≠ 0) || !s)) := by
 have hU := ai
 rw [XU hx h, Nat.mul_div_cancel _ hU]
 have e1 : k * mM ≤ 1048576 * mM ↔ k ≤ 1048576 := Nat.mul_le_mul_right_iff hU
 have e2 : k * mM ≠ 0 ↔ k ≠ 0 := ⟨fun g e => g (by rw [e, Nat.zero_mul]), fun g => Nat.mul_ne_zero g (by omega)⟩
 rw [decide_eq_decide.2 e1, decide_eq_decide.2 e2, dT rfl, Bool.true_and]
theorem Uk (x : Nat) (h : (Ieee.double.read x).isNaN = false) (w : World) : (callFunc 118 #[.float .f64 x]).run Tryz.prog w = .ok (.value (.float .f64 (D6 x))) w := by
 rw [run_callFunc_extern Tryz.func118 (by kernel_rfl) (by kernel_rfl) (by kernel_rfl) (e := Extern.MathFloor.toIntegral "math.archTrunc" .zero) (by kernel_rfl)]
 have e : (Extern.MathFloor.toIntegral "math.archTrunc" .zero #[.float .f64 x]).run Tryz.prog w = .ok (.float .f64 (D6 x)) w := by
  show (match FloatKind.f64.decode x with
   | .nan s t =>
    if FloatKind.f64.format.quiet t = t then pure (Value.float .f64 x) else do
    let kept ← choose (.extern "math.Floor,Ceil,Trunc,RoundToEven.signallingNaN kept" 2)
    pure (Value.float .f64 (if kept == 1 then x else FloatKind.f64.encode (.nan s (FloatKind.f64.format.quiet t))))
   | d => pure (Value.float .f64 (FloatKind.f64.encode (d.integral .zero)))).run Tryz.prog w = _
  unfold D6
  have hd : FloatKind.f64.decode x = Ieee.double.read x := rfl
  rw [hd]
  cases hr : Ieee.double.read x with
  | nan s n => rw [hr] at h; cases h
  | infinity s => rfl
  | number s m p => rfl
 rw [e]; rfl
theorem Tq (x : Nat) (w : World) : (callFunc 120 #[.float .f64 x]).run Tryz.prog w = .ok (.value (.int .u64 (x : Int))) w := by
 rw [run_callFunc_extern Tryz.func120 (by kernel_rfl) (by kernel_rfl) (by kernel_rfl) (e := Extern.MathFloatBits.float64bits) (by kernel_rfl)]
 rfl
theorem _Z.calls (x : Nat) (h : (Ieee.double.read x).isNaN = false) (w : World) :
 Calls Tryz.prog 112 #[.float .f64 x] w fun e w' => e = .returned (.float .f64 (D6 x)) ∧ w' = w := by
 have hd := Uk x h
 clear h
 go_enter Tryz.func112, Tryz.ntmps112
 go_wp2
 go_ret
 exact ⟨rfl, rfl⟩
theorem Zo (x : Nat) : decide (wrap64 (x : Int) < 0) = OC x := by
 unfold OC
 unfold wrap64
 rw [decide_eq_decide]
 omega
theorem Vq.calls (x : Nat) (w : World) :
 Calls Tryz.prog 113 #[.float .f64 x] w fun e w' => e = .returned (.bool (OC x)) ∧ w' = w := by
 have hd := Tq x
 have hs := Zo x
 go_enter Tryz.func113, Tryz.ntmps113
 go_wp2
 go_ret
 exact ⟨by rw [← hs]; rfl, rfl⟩
theorem Dv.calls (x : Nat) (w : World) :
 Calls Tryz.prog 109 #[.float .f64 x] w fun e w' => e = .returned (.bool (mZ x)) ∧ w' = w := by
 have hu : mZ x = ((Ieee.double.order x 13920626448202203136 == some .gt || Ieee.double.order x 13920626448202203136 == some .eq) && ((Ieee.double.order x 4697254411347427328 == some .lt || Ieee.double.order x 4697254411347427328 == some .eq) && (Ieee.double.order x (D6 x) == some .eq && !(Ieee.double.order x 0 == some .eq && OC x)))) := rfl
 cases h1 : (FloatKind.f64.format.order x 13920626448202203136 == some .gt || FloatKind.f64.format.order x 13920626448202203136 == some .eq) with
 | false =>
  rw [show (Ieee.double.order x 13920626448202203136 == some .gt || Ieee.double.order x 13920626448202203136 == some .eq) = false from h1, Bool.false_and] at hu
  have hf := aC.mk hu
  clear hu
  go_enter Tryz.func109, Tryz.ntmps109
  go_wp2
  go_ret
  exact ⟨by rw [hf.out]; rfl, rfl⟩
 | true =>
  rw [show (Ieee.double.order x 13920626448202203136 == some .gt || Ieee.double.order x 13920626448202203136 == some .eq) = true from h1, Bool.true_and] at hu
  cases h2 : (FloatKind.f64.format.order x 4697254411347427328 == some .lt || FloatKind.f64.format.order x 4697254411347427328 == some .eq) with
  | false =>
   rw [show (Ieee.double.order x 4697254411347427328 == some .lt || Ieee.double.order x 4697254411347427328 == some .eq) = false from h2, Bool.false_and] at hu
   have hf := aC.mk hu
   clear hu
   go_enter Tryz.func109, Tryz.ntmps109
   go_wp2
   go_ret
   exact ⟨by rw [hf.out]; rfl, rfl⟩
  | true =>
   rw [show (Ieee.double.order x 4697254411347427328 == some .lt || Ieee.double.order x 4697254411347427328 == some .eq) = true from h2, Bool.true_and] at hu
   have hn : (Ieee.double.read x).isNaN = false := by
    cases hr : Ieee.double.read x with
    | nan s n =>
     have h3 : FloatKind.f64.format.order x 13920626448202203136 = none := Eu hr
     rw [h3] at h1; cases h1
    | infinity s => rfl
    | number s m p => rfl
   cases h3 : (FloatKind.f64.format.order x (D6 x) == some .eq) with
   | false =>
    rw [show (Ieee.double.order x (D6 x) == some .eq) = false from h3, Bool.false_and] at hu
    have hf := aC.mk hu
    clear hu
    go_enter Tryz.func109, Tryz.ntmps109
    go_wp2_with (first | (fail))
    refine (_Z.calls x hn _).mono ?_
    rintro e w8 ⟨rfl, rfl⟩
    go_wp2_with (first | (fail))
    go_ret
    exact ⟨by rw [hf.out]; rfl, rfl⟩
   | true =>
    rw [show (Ieee.double.order x (D6 x) == some .eq) = true from h3, Bool.true_and] at hu
    cases h4 : (FloatKind.f64.format.order x 0 == some .eq) with
    | false =>
     rw [show (Ieee.double.order x 0 == some .eq) = false from h4, Bool.false_and, Bool.not_false] at hu
     have hf := aC.mk hu
     clear hu
     go_enter Tryz.func109, Tryz.ntmps109
     go_wp2_with (first | (fail))
     refine (_Z.calls x hn _).mono ?_
     rintro e w8 ⟨rfl, rfl⟩
     go_wp2_with (first | (fail))
     go_ret
     exact ⟨by rw [hf.out]; rfl, rfl⟩
    | true =>
     rw [show (Ieee.double.order x 0 == some .eq) = true from h4, Bool.true_and] at hu
     have hf := aC.mk hu
     clear hu
     go_enter Tryz.func109, Tryz.ntmps109
     go_wp2_with (first | (fail))
     refine (_Z.calls x hn _).mono ?_
     rintro e w8 ⟨rfl, rfl⟩
     go_wp2_with (first | (fail))
     refine (Vq.calls x _).mono ?_
     rintro e w9 ⟨rfl, rfl⟩
     go_wp2_with (first | (fail))
     go_ret
     exact ⟨by rw [hf.out]; rfl, rfl⟩
def BI (l : List (Nat × Nat)) : Bool := l.all fun z => mZ z.1 && mZ z.2
theorem Zf (l : List (Nat × Nat)) (i : Nat) (h : i < l.length) : BI (l.take (i + 1)) = (BI (l.take i) && (mZ (l.getD i (0, 0)).1 && mZ (l.getD i (0, 0)).2)) := by
 unfold BI
 rw [List.take_succ_eq_append_getElem h, List.all_append]
 simp [List.getD_eq_getElem?_getD, h]
theorem Xr (l : List (Nat × Nat)) (i : Nat) (h : i < l.length) (g : (mZ (l.getD i (0, 0)).1 && mZ (l.getD i (0, 0)).2) = false) : BI l = false := by
 unfold BI
 rw [List.all_eq_false]
 refine ⟨l[i], List.getElem_mem h, ?_⟩
 have e : l.getD i (0, 0) = l[i] := by simp [List.getD_eq_getElem?_getD, h]
 rw [e] at g; rw [g]; exact Bool.false_ne_true
theorem _7.calls (a : Addr) (c : Nat) (l : List (Nat × Nat)) (w : World) (hc : l.length ≤ c) (hb : l.length ≤ 100) (hr : ∀ i, i < l.length → w.cell? (a.add i) = some (.complex .f64 (l.getD i (0, 0)).1 (l.getD i (0, 0)).2)) :
 Calls Tryz.prog 103 #[.slice (some a) l.length c] w fun e w' => e = .returned (.bool (BI l)) ∧ w' = w := by
 have HR := aC.mk hr
 have HB := aC.mk hb
 clear hr hb
 go_enter Tryz.func103, Tryz.ntmps103
 go_wp2
 go_loopg [7] l.length (fun kq v7 w' => ∃ i : Nat, v7 = .int .i64 i ∧ aC (i + kq = l.length) ∧ i ≤ l.length ∧ aC (w' = w) ∧ aC (BI (l.take i) = true))
 case atStart => exact ⟨0, rfl, ⟨by omega⟩, Nat.zero_le _, ⟨rfl⟩, ⟨by rw [List.take_zero]; rfl⟩⟩
 case round =>
  obtain ⟨i, rfl, HK, hi, ⟨hw⟩, HM⟩ := hrel
  subst hw
  by_cases hlt : i < l.length
  · have hlt' : decide ((i : Int) < (l.length : Int)) = true := by simpa using hlt
    obtain ⟨k1, rfl⟩ : ∃ m, gk = m + 1 := ⟨gk - 1, by have := HK.out; omega⟩
    have Hw : aC (wrap64 ((i : Int) + 1) = (i : Int) + 1) := ⟨by have := HB.out; exact fC (by omega) (by omega)⟩
    have hx := HR.out i hlt
    have p1 : (0 ≤ (i : Int)) = True := eT (Int.natCast_nonneg i)
    have q1 : ((i : Int) < (l.length : Int)) = True := eT (by omega)
    have hs := Zf l i hlt
    have hf := Xr l i hlt
    generalize hg1 : (l.getD i (0, 0)).1 = g1 at *
    generalize hg2 : (l.getD i (0, 0)).2 = g2 at *
    have HX := aC.mk hs
    have HF := aC.mk hf
    clear hs hf hg1 hg2
    go_wp2_with (first | (fail))
    refine (Dv.calls g1 _).mono ?_
    rintro e w8 ⟨rfl, rfl⟩
    cases hp1 : mZ g1 with
    | false =>
     go_wp2_with (first | (fail))
     go_ret
     exact ⟨by rw [HF.out (by rw [hp1]; rfl)]; rfl, rfl⟩
    | true =>
     go_wp2_with (first | (fail))
     refine (Dv.calls g2 _).mono ?_
     rintro e w8 ⟨rfl, rfl⟩
     cases hp2 : mZ g2 with
     | false =>
      go_wp2_with (first | (fail))
      go_ret
      exact ⟨by rw [HF.out (by rw [hp1, hp2]; rfl)]; rfl, rfl⟩
     | true =>
      go_wp2_with (first | (fail))
      go_roundg k1
      case measure => have := HK.out; omega
      case rel => exact ⟨i + 1, by rw [Hw.out]; rfl, ⟨by have := HK.out; omega⟩, by omega, ⟨rfl⟩, ⟨by rw [HX.out, HM.out, hp1, hp2]; rfl⟩⟩
  · have hlt' : decide ((i : Int) < (l.length : Int)) = false := by simpa using hlt
    have Hi : aC (l.take i = l) := ⟨List.take_of_length_le (by omega)⟩
    go_wp2_with (first | (fail))
    go_ret
    exact ⟨by rw [← HM.out, Hi.out]; rfl, rfl⟩
theorem Wt.calls (re im cr ci : Nat) (h1 : floatBits .add .f64 re 0 = some cr) (h2 : floatBits .add .f64 im 0 = some ci) (w : World) :
 Calls Tryz.prog 108 #[.complex .f64 re im] w fun e w' => e = .returned (.complex .f64 cr ci) ∧ w' = w := by
 have r1 := fun w => run_float_arith (P := Tryz.prog) w .add 169 .f64 re 0 cr h1
 have r2 := fun w => run_float_arith (P := Tryz.prog) w .add 169 .f64 im 0 ci h2
 clear h1 h2
 go_enter Tryz.func108, Tryz.ntmps108
 go_wp2
 go_ret
 exact ⟨rfl, rfl⟩
def IM (cr ci : Nat) (l : List (Nat × Nat)) : Nat × Nat × Int := if BI l && (mZ cr && mZ ci) then (cr, ci, 0) else (0, 0, 17)
theorem cells_one (w : World) (x y : Nat) (t : TypeId) : ∀ i, i < [(x, y)].length → (w.alloc (.cells #[.complex .f64 x y] t)).cell? ((⟨w.heap.size, 0, none⟩ : Addr).add i) = some (.complex .f64 ([(x, y)].getD i (0, 0)).1 ([(x, y)].getD i (0, 0)).2) := by
 intro i hi
 obtain rfl : i = 0 := by simpa using hi
 simp [Addr.add]
theorem Yw (w : World) (x y u v : Nat) (t : TypeId) : ∀ i, i < [(x, y), (u, v)].length → (w.alloc (.cells #[.complex .f64 x y, .complex .f64 u v] t)).cell? ((⟨w.heap.size, 0, none⟩ : Addr).add i) = some (.complex .f64 ([(x, y), (u, v)].getD i (0, 0)).1 ([(x, y), (u, v)].getD i (0, 0)).2) := by
 intro i hi
 have : i = 0 ∨ i = 1 := by simp at hi; omega
 rcases this with rfl | rfl <;> simp [Addr.add]
theorem Xp.calls (re im cr ci : Nat) (h1 : floatBits .add .f64 re 0 = some cr) (h2 : floatBits .add .f64 im 0 = some ci) (a : Addr) (c : Nat) (l : List (Nat × Nat)) (w : World) (hc : l.length ≤ c) (hb : l.length ≤ 100) (hr : ∀ i, i < l.length → w.cell? (a.add i) = some (.complex .f64 (l.getD i (0, 0)).1 (l.getD i (0, 0)).2)) :
 Calls Tryz.prog 99 #[.complex .f64 re im, .slice (some a) l.length c] w fun e w' => e = .returned (.tuple #[.complex .f64 (IM cr ci l).1 (IM cr ci l).2.1, .int .i64 (IM cr ci l).2.2]) ∧ Below w.heap.size w w' := by
 have HR := aC.mk hr
 have HB := aC.mk hb
 have HC := aC.mk hc
 have H1 := aC.mk h1
 have H2 := aC.mk h2
 clear hr hb hc h1 h2
 go_enter Tryz.func99, Tryz.ntmps99
 go_wp2_with (first | (fail))
 refine (Wt.calls re im cr ci H1.out H2.out _).mono ?_
 rintro e w8 ⟨rfl, rfl⟩
 go_wp2_with (first | (fail))
 refine (_7.calls a c l _ HC.out HB.out HR.out).mono ?_
 rintro e w8 ⟨rfl, rfl⟩
 cases hm : BI l with
 | false =>
  go_wp2_with (first | (fail))
  go_ret2
  exact ⟨by unfold IM; rw [hm]; rfl, Below.refl _ _⟩
 | true =>
  go_wp2_with (first | (fail))
  have Hz := aC.mk (cells_one w8 cr ci 147)
  refine (_7.calls ⟨w8.heap.size, 0, none⟩ 1 [(cr, ci)] _ (Nat.le_refl _) (by simp) Hz.out).mono ?_
  rintro e w9 ⟨rfl, rfl⟩
  have hz : BI [(cr, ci)] = (mZ cr && mZ ci) := by unfold BI; simp
  rw [hz]
  cases hp : (mZ cr && mZ ci) with
  | false =>
   go_wp2_with (first | (fail))
   go_ret2
   exact ⟨by unfold IM; rw [hm, hp]; rfl, iD (Below.refl _ _) _⟩
  | true =>
   go_wp2_with (first | (fail))
   go_ret2
   exact ⟨by unfold IM; rw [hm, hp]; rfl, iD (Below.refl _ _) _⟩
theorem Zb.calls (a b c d re im cr ci : Nat) (h1 : cMulBits a b c d = some (re, im)) (h3 : floatBits .add .f64 re 0 = some cr) (h4 : floatBits .add .f64 im 0 = some ci) (w : World) :
 Calls Tryz.prog 87 #[.complex .f64 a b, .complex .f64 c d] w fun e w' => e = .returned (.tuple #[.complex .f64 (IM cr ci [(a, b), (c, d)]).1 (IM cr ci [(a, b), (c, d)]).2.1, .int .i64 (IM cr ci [(a, b), (c, d)]).2.2]) ∧ Below w.heap.size w w' := by
 have r1 := fun w => run_complex_mul (P := Tryz.prog) w 147 a b c d re im h1
 have H3 := aC.mk h3
 have H4 := aC.mk h4
 clear h1 h3 h4
 go_enter Tryz.func87, Tryz.ntmps87
 go_wp2_with (first | (fail))
 have Hz := aC.mk (Yw w a b c d 147)
 refine (Xp.calls re im cr ci H3.out H4.out ⟨w.heap.size, 0, none⟩ 2 [(a, b), (c, d)] _ (Nat.le_refl _) (by simp) Hz.out).mono ?_
 rintro e w9 ⟨rfl, hb⟩
 have HB := aC.mk (jV (iD (Below.refl w.heap.size w) _) hb)
 clear hb
 go_wp2_with (first | (fail))
 go_ret2
 exact ⟨rfl, HB.out⟩
theorem Bw (v : Int) (w : World) : (callFunc 101 #[.int .u32 v]).run Tryz.prog w = .ok (.value (.float .f32 v.toNat)) w := by
 rw [run_callFunc_extern Tryz.func101 (by kernel_rfl) (by kernel_rfl) (by kernel_rfl) (e := Extern.MathFloatBits.float32frombits) (by kernel_rfl)]
 rfl
def UW (v : Nat) : ByteArray := strOfNums [(v : Int) % 256, (v : Int) / 256 % 256, (v : Int) / 65536 % 256, (v : Int) / 16777216 % 256]
theorem aEB (n : Int) : floatOfInt .f64 n = dI (decide (n < 0)) n.natAbs := rfl
theorem aDn (n : Int) (h0 : -9007199254740992 < n) (h1 : n < 9007199254740992) : I1 (floatOfInt .f64 n) (decide (n < 0)) n.natAbs := UB _ _ (by omega)
theorem aEC (n : Int) : floatOfInt .f64 n < 18446744073709551616 := Ieee.double.nearest_lt _ _ _
theorem aDi (n : Int) (h0 : -9007199254740992 < n) (h1 : n < 9007199254740992) : mZ (floatOfInt .f64 n) = decide (-1048576 ≤ n ∧ n ≤ 1048576) := by
 rw [Gn (aEC n) (aDn n h0 h1)]
 have e : (decide (n.natAbs ≠ 0) || !decide (n < 0)) = true := by
  by_cases h : n < 0
  · rw [dT (show n.natAbs ≠ 0 by omega)]; rfl
  · rw [dF h]; simp
 rw [e, Bool.and_true, decide_eq_decide]
 omega
theorem aAa (n : Int) (h : n ≠ 0) (h1 : n.natAbs < 16777216) : floatOfInt .f32 n = (if n < 0 then 2147483648 else 0) + ((n.natAbs.log2 + 126) * 8388608 + n.natAbs * 2 ^ (23 - n.natAbs.log2)) := by
 have hk : n.natAbs ≠ 0 := by omega
 have hl : n.natAbs.log2 ≤ 23 := by
  have := (Nat.log2_lt hk).2 (show n.natAbs < 2 ^ 24 from h1); omega
 have hL := (Nat.log2_eq_iff hk).1 rfl
 show Ieee.single.nearest (decide (n < 0)) n.natAbs 0 = _
 unfold Ieee.Format.nearest
 rw [iN hk]
 dsimp only
 have hf : Ieee.single.fractionBits = 23 := rfl
 have hb : Ieee.single.binade = 8388608 := by decide
 have hi : Ieee.single.infRung = 255 * 8388608 := by decide
 have hs : Ieee.single.signWeight = 2147483648 := by decide
 rw [sl, hf, hb, hi]
 have hm : max ((0 : Int) + (n.natAbs.log2 : Int) - ((23 : Nat) : Int)) (-149) = (n.natAbs.log2 : Int) - 23 := by omega
 rw [hm, show ((n.natAbs.log2 : Int) - 23 - 0).toNat = 0 by omega, PE, show (0 - ((n.natAbs.log2 : Int) - 23)).toNat = 23 - n.natAbs.log2 by omega, Nat.shiftLeft_eq, show ((n.natAbs.log2 : Int) - 23 - -149).toNat = n.natAbs.log2 + 126 by omega]
 have hK : n.natAbs * 2 ^ (23 - n.natAbs.log2) < 16777216 := by
  have h2 : n.natAbs * 2 ^ (23 - n.natAbs.log2) < 2 ^ (n.natAbs.log2 + 1) * 2 ^ (23 - n.natAbs.log2) := (Nat.mul_lt_mul_right (Nat.two_pow_pos _)).2 hL.2
  rw [← Nat.pow_add, show n.natAbs.log2 + 1 + (23 - n.natAbs.log2) = 24 by omega] at h2
  exact h2
 rw [Nat.min_eq_left (by omega)]
 unfold Ieee.Format.word
 rw [hs]
 by_cases g : n < 0
 · rw [ip (dT g), ip g]
 · rw [iN (by simp; omega), iN g, Nat.zero_add]
end Go.Proofs.YtgmggompdidcoaaGreatDoor.X
