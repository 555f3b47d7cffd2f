import Derived.Test.YthidedmnmdlfkaaGreatMPbnodeWritesUpto2
import Derived.Test.YthidedmnmdlfkaaGreatMPbnodeWritesUpto3
namespace Go.Proofs.YthidedmnmdlfkaaGreat.X
open Go.RowKit Go.Proofs.YthidedmnmdlfkaaGreatW.PrintWords Go.Proofs.YthidedmnmdlfkaaGreatW.PrintLast Go.Proofs.YthidedmnmdlfkaaGreatW.PrintMore
attribute [local go_sem] max2_int min2_int max_two min_two max_three min_three max_four min_four
set_option linter.unusedVariables false
set_option linter.unusedSimpArgs false
def stepI (n : Int) (x : S29) : Int := wrap64 (n + wrap64 (wrap64 (1 + (x.f0.size : Int)) + (x.f2.length : Int)))
def sumI (n : Int) (l : List S29) : Int := l.foldl stepI n
def stepT (n : Int) (x : S64) : Int := wrap64 (n + wrap64 (wrap64 (wrap64 (1 + (x.f0.size : Int)) + (x.f2.length : Int)) + (x.f3.size : Int)))
def sumT (n : Int) (l : List S64) : Int := l.foldl stepT n
def stepS (n : Int) (x : ByteArray) : Int := wrap64 (n + wrap64 (1 + (x.size : Int)))
def sumSt (n : Int) (l : List ByteArray) : Int := l.foldl stepS n
def stepA (n : Int) (x : S65) : Int := wrap64 (n + wrap64 (wrap64 (1 + (x.f0.size : Int)) + (x.f3.length : Int)))
def sumA (n : Int) (l : List S65) : Int := l.foldl stepA n
def stepD (n : Int) (x : S25) : Int := sumA (sumSt (wrap64 (n + wrap64 (wrap64 (1 + (x.f0.size : Int)) + (x.f2.size : Int)))) x.f1) x.f3
def sumD (n : Int) (l : List S25) : Int := l.foldl stepD n
def smallN (l1 l2 : List S29) (l3 : List S64) (l4 : List S25) : Int := sumD (sumT (sumI (sumI 0 l1) l2) l3) l4
def agatelaw10_Small.f (a0_0 : Int) (l0_1 : List S29) (l0_2 : List S29) (l0_3 : List S64) (l0_4 : List S25) : Option Bool := some (decide (smallN l0_1 l0_2 l0_3 l0_4 ≤ 6000))
set_option maxHeartbeats 8000000 in
set_option maxRecDepth 100000 in
theorem agatelaw10_Small.calls (a0_0 : Int) (A0_1 : Option Addr) (c0_1 : Nat) (l0_1 : List S29) (A0_2 : Option Addr) (c0_2 : Nat) (l0_2 : List S29) (A0_3 : Option Addr) (c0_3 : Nat) (l0_3 : List S64) (A0_4 : Option Addr) (c0_4 : Nat) (l0_4 : List S25) (r : Bool) (w : World) (hr0_1 : Kd.C k29 w A0_1 l0_1.length l0_1) (hc0_1 : l0_1.length ≤ c0_1) (hr0_2 : Kd.C k29 w A0_2 l0_2.length l0_2) (hc0_2 : l0_2.length ≤ c0_2) (hr0_3 : Kd.C k64 w A0_3 l0_3.length l0_3) (hc0_3 : l0_3.length ≤ c0_3) (hr0_4 : Kd.C k25 w A0_4 l0_4.length l0_4) (hc0_4 : l0_4.length ≤ c0_4) (h : agatelaw10_Small.f a0_0 l0_1 l0_2 l0_3 l0_4 = some r) :
    Calls Tryz.prog 4 #[.agg #[.int .i64 a0_0, .slice A0_1 l0_1.length c0_1, .slice A0_2 l0_2.length c0_2, .slice A0_3 l0_3.length c0_3, .slice A0_4 l0_4.length c0_4]] w fun e w' => e = .returned (.bool r) ∧ Below w.heap.size w w' := by
  obtain rfl := Option.some.inj h
  clear h
  obtain ⟨T4, hT4⟩ : ∃ T4, T4 = smallN l0_1 l0_2 l0_3 l0_4 := ⟨_, rfl⟩
  obtain ⟨T2, hT2⟩ : ∃ T2, T2 = sumI (sumI 0 l0_1) l0_2 := ⟨_, rfl⟩
  obtain ⟨T3, hT3⟩ : ∃ T3, T3 = sumT T2 l0_3 := ⟨_, rfl⟩
  have HT4 := Aside0.mk (show sumD T3 l0_4 = T4 by rw [hT4, hT3, hT2]; rfl)
  have HT3 := Aside0.mk hT3.symm
  have HT2 := Aside0.mk hT2.symm
  rw [← hT4]
  clear hT4 hT3 hT2
  have hu := Tryz.underlying35
  have hu2 := Tryz.underlying29
  have hu3 := Tryz.underlying64
  have hu4 := Tryz.underlying25
  have hu5 := Tryz.underlying65
  have HR1 := Aside0.mk hr0_1
  have HR2 := Aside0.mk hr0_2
  have HR3 := Aside0.mk hr0_3
  have HR4 := Aside0.mk hr0_4
  clear hr0_1 hc0_1 hr0_2 hc0_2 hr0_3 hc0_3 hr0_4 hc0_4
  go_enter Tryz.func4, Tryz.ntmps4
  go_wp2_with (first | (fail))
  have BK0 := Aside0.mk (show ((w.alloc (Obj.cells #[.int .i64 a0_0, .slice A0_1 l0_1.length c0_1, .slice A0_2 l0_2.length c0_2, .slice A0_3 l0_3.length c0_3, .slice A0_4 l0_4.length c0_4] 35)).alloc (Obj.cells #[.slice A0_1 l0_1.length c0_1, .slice A0_2 l0_2.length c0_2] 31)).heap[w.heap.size]? = some (.cells #[.int .i64 a0_0, .slice A0_1 l0_1.length c0_1, .slice A0_2 l0_2.length c0_2, .slice A0_3 l0_3.length c0_3, .slice A0_4 l0_4.length c0_4] 35 (0, 0)) from blk_alloc (blk_new w _) _)
  have BKr := Aside0.mk (show ((w.alloc (Obj.cells #[.int .i64 a0_0, .slice A0_1 l0_1.length c0_1, .slice A0_2 l0_2.length c0_2, .slice A0_3 l0_3.length c0_3, .slice A0_4 l0_4.length c0_4] 35)).alloc (Obj.cells #[.slice A0_1 l0_1.length c0_1, .slice A0_2 l0_2.length c0_2] 31)).heap[w.heap.size + 1]? = some (.cells #[.slice A0_1 l0_1.length c0_1, .slice A0_2 l0_2.length c0_2] 31 (0, 0)) from by rw [← alloc_size w (Obj.cells #[.int .i64 a0_0, .slice A0_1 l0_1.length c0_1, .slice A0_2 l0_2.length c0_2, .slice A0_3 l0_3.length c0_3, .slice A0_4 l0_4.length c0_4] 35)]; exact blk_new _ _)
  have HB := Aside0.mk (below_alloc (below_alloc (Below.refl w.heap.size w) (Obj.cells #[.int .i64 a0_0, .slice A0_1 l0_1.length c0_1, .slice A0_2 l0_2.length c0_2, .slice A0_3 l0_3.length c0_3, .slice A0_4 l0_4.length c0_4] 35)) (Obj.cells #[.slice A0_1 l0_1.length c0_1, .slice A0_2 l0_2.length c0_2] 31))
  generalize ((w.alloc (Obj.cells #[.int .i64 a0_0, .slice A0_1 l0_1.length c0_1, .slice A0_2 l0_2.length c0_2, .slice A0_3 l0_3.length c0_3, .slice A0_4 l0_4.length c0_4] 35)).alloc (Obj.cells #[.slice A0_1 l0_1.length c0_1, .slice A0_2 l0_2.length c0_2] 31)) = w3 at BK0 BKr HB ⊢
  obtain ⟨rb, hrb⟩ : ∃ rb, rb = w.heap.size + 1 := ⟨_, rfl⟩
  rw [← hrb] at BKr ⊢
  clear hrb
  go_loopg [3, 22] 2 (fun kq v3 v22 w' => ∃ (i : Nat) (n : Int), v3 = .int .i64 n ∧ v22 = .int .i64 i ∧ Aside0 (i + kq = 2) ∧ i ≤ 2 ∧ Aside0 (([l0_1, l0_2].drop i).foldl sumI n = T2) ∧ Aside0 (w'.heap[rb]? = some (.cells #[.slice A0_1 l0_1.length c0_1, .slice A0_2 l0_2.length c0_2] 31 (0, 0))) ∧ Aside0 (w'.heap[w.heap.size]? = some (.cells #[.int .i64 a0_0, .slice A0_1 l0_1.length c0_1, .slice A0_2 l0_2.length c0_2, .slice A0_3 l0_3.length c0_3, .slice A0_4 l0_4.length c0_4] 35 (0, 0))) ∧ Aside0 (Below w.heap.size w w'))
  case atStart => exact ⟨0, 0, rfl, rfl, ⟨by omega⟩, by omega, HT2, BKr, BK0, HB⟩
  case round =>
  clear HT2 BK0 HB BKr
  obtain ⟨i1, n1, rfl, rfl, HK1, hi1, HF1, BKr, BK0, HB⟩ := hrel
  by_cases hlt1 : i1 < 2
  · have hlt' : decide ((i1 : Int) < 2) = true := decide_eq_true (by omega)
    obtain ⟨kk1, rfl⟩ : ∃ m, gk = m + 1 := ⟨gk - 1, by have := HK1.out; omega⟩
    have p101 : 0 ≤ (i1 : Int) := Int.natCast_nonneg i1
    have q101 : (i1 : Int) < 2 := by omega
    obtain ⟨A, c, l, hc1, hC, hdr⟩ : ∃ (A : Option Addr) (c : Nat) (l : List S29), wr.cell? ⟨rb, i1, none⟩ = some (.slice A l.length c) ∧ Kd.C k29 w A l.length l ∧ [l0_1, l0_2].drop i1 = l :: [l0_1, l0_2].drop (i1 + 1) := by
      have h : i1 = 0 ∨ i1 = 1 := by omega
      rcases h with rfl | rfl
      · exact ⟨_, _, l0_1, blk_cell BKr.out 0, HR1.out, rfl⟩
      · exact ⟨_, _, l0_2, blk_cell BKr.out 1, HR2.out, rfl⟩
    have HC := Aside0.mk hC
    obtain ⟨T1, hT1⟩ : ∃ T1, T1 = sumI n1 l := ⟨_, rfl⟩
    have HF2 := Aside0.mk (show ([l0_1, l0_2].drop (i1 + 1)).foldl sumI T1 = T2 by have h := HF1.out; rw [hdr] at h; rw [hT1]; exact h)
    have HT1 := Aside0.mk hT1.symm
    clear HF1 hdr hC hT1
    have HF1 := HF2
    clear HF2
    replace p101 := eq_true p101
    replace q101 := eq_true q101
    go_wp2_with (first | (fail))
    go_loopg [3, 28] l.length (fun kq v3 v28 w' => ∃ (i : Nat) (n : Int), v3 = .int .i64 n ∧ v28 = .int .i64 i ∧ Aside0 (i + kq = l.length) ∧ i ≤ l.length ∧ Aside0 (sumI n (l.drop i) = T1) ∧ Aside0 (w'.heap[rb]? = some (.cells #[.slice A0_1 l0_1.length c0_1, .slice A0_2 l0_2.length c0_2] 31 (0, 0))) ∧ Aside0 (w'.heap[w.heap.size]? = some (.cells #[.int .i64 a0_0, .slice A0_1 l0_1.length c0_1, .slice A0_2 l0_2.length c0_2, .slice A0_3 l0_3.length c0_3, .slice A0_4 l0_4.length c0_4] 35 (0, 0))) ∧ Aside0 (Below w.heap.size w w'))
    case atStart => exact ⟨0, _, rfl, rfl, ⟨by omega⟩, Nat.zero_le _, HT1, BKr, BK0, HB⟩
    case round =>
    clear HT1 BKr BK0 HB
    obtain ⟨i2, n2, rfl, rfl, HK2, hi2, HF2, BKr, BK0, HB⟩ := hrel
    by_cases hlt2 : i2 < l.length
    · have hlt' : decide ((i2 : Int) < (l.length : Int)) = true := by simpa using hlt2
      obtain ⟨kk2, rfl⟩ : ∃ m, gk = m + 1 := ⟨gk - 1, by have := HK2.out; omega⟩
      have p101 : 0 ≤ (i2 : Int) := Int.natCast_nonneg i2
      have q101 : (i2 : Int) < (l.length : Int) := by omega
      obtain ⟨x2, hx2⟩ : ∃ x, x = l[i2] := ⟨_, rfl⟩
      have hdr : l.drop i2 = x2 :: l.drop (i2 + 1) := by rw [List.drop_eq_getElem_cons hlt2, hx2]
      have HFx := Aside0.mk (show sumI (stepI n2 x2) (l.drop (i2 + 1)) = T1 by have h := HF2.out; rw [hdr] at h; exact h)
      have Hw2 : Aside0 (wrap64 ((i2 : Int) + 1) = (i2 : Int) + 1) := ⟨by have h := (Kd.C_below HC.out HB.out).2.1; exact wrap64_id (by omega) (by omega)⟩
      obtain ⟨ad2, A2_2, c2_2, e101, h2_0, h2_1, h2_2, hl2_2, hi2_2⟩ := at_T29 (Kd.C_below HC.out HB.out) (i2 : Int) p101 q101
      cases e101
      rw [Int.toNat_natCast] at h2_0 h2_1 h2_2
      have hr : rd_T29 l (i2 : Int) = x2 := by rw [hx2]; simp [rd_T29, hlt2]
      rw [hr] at h2_0 h2_1 h2_2 hl2_2 hi2_2
      clear HF2 hdr hr hx2
      have HF2 := HFx
      clear HFx
      replace p101 := eq_true p101
      replace q101 := eq_true q101
      go_wp2_with (first | (fail))
      go_roundg kk2
      case measure => have := HK2.out; omega
      case rel => exact ⟨i2 + 1, _, rfl, by rw [Hw2.out]; rfl, ⟨by have := HK2.out; omega⟩, by omega, HF2, ⟨blk_alloc BKr.out _⟩, ⟨blk_alloc BK0.out _⟩, ⟨below_alloc HB.out _⟩⟩
    · have hlt' : decide ((i2 : Int) < (l.length : Int)) = false := by simpa using hlt2
      have HN := Aside0.mk (show n2 = T1 by have h := HF2.out; rw [List.drop_of_length_le (by omega)] at h; exact h)
      go_wp2_with (first | (fail))
      go_roundg kk1
      case measure => have := HK1.out; omega
      case rel => exact ⟨i1 + 1, _, rfl, by first | rfl | (rw [show wrap64 ((i1 : Int) + 1) = (i1 : Int) + 1 from wrap64_id (by omega) (by omega)]; rfl), ⟨by have := HK1.out; omega⟩, by omega, ⟨by rw [HN.out]; exact HF1.out⟩, BKr, BK0, HB⟩
  · have hlt' : decide ((i1 : Int) < 2) = false := decide_eq_false (by omega)
    have HN1 := Aside0.mk (show n1 = T2 by have h := HF1.out; rw [List.drop_of_length_le (by simp; omega)] at h; exact h)
    have g3 : wr.cell? ⟨w.heap.size, 3, none⟩ = some (.slice A0_3 l0_3.length c0_3) := blk_cell BK0.out 3
    go_wp2_with (first | (fail))
    have HTT := Aside0.mk (show sumT n1 (l0_3.drop 0) = T3 by rw [HN1.out]; exact HT3.out)
    clear g3 HF1 HT3 HN1
    go_loopg [3, 47] l0_3.length (fun kq v3 v47 w' => ∃ (i : Nat) (n : Int), v3 = .int .i64 n ∧ v47 = .int .i64 i ∧ Aside0 (i + kq = l0_3.length) ∧ i ≤ l0_3.length ∧ Aside0 (sumT n (l0_3.drop i) = T3) ∧ Aside0 (w'.heap[w.heap.size]? = some (.cells #[.int .i64 a0_0, .slice A0_1 l0_1.length c0_1, .slice A0_2 l0_2.length c0_2, .slice A0_3 l0_3.length c0_3, .slice A0_4 l0_4.length c0_4] 35 (0, 0))) ∧ Aside0 (Below w.heap.size w w'))
    case atStart => exact ⟨0, _, rfl, rfl, ⟨by omega⟩, Nat.zero_le _, HTT, BK0, HB⟩
    case round =>
    clear HTT BK0 HB
    obtain ⟨i3, n3, rfl, rfl, HK3, hi3, HF3, BK0, HB⟩ := hrel
    by_cases hlt3 : i3 < l0_3.length
    · have hlt' : decide ((i3 : Int) < (l0_3.length : Int)) = true := by simpa using hlt3
      obtain ⟨kk3, rfl⟩ : ∃ m, gk = m + 1 := ⟨gk - 1, by have := HK3.out; omega⟩
      have p101 : 0 ≤ (i3 : Int) := Int.natCast_nonneg i3
      have q101 : (i3 : Int) < (l0_3.length : Int) := by omega
      obtain ⟨x3, hx3⟩ : ∃ x, x = l0_3[i3] := ⟨_, rfl⟩
      have hdr : l0_3.drop i3 = x3 :: l0_3.drop (i3 + 1) := by rw [List.drop_eq_getElem_cons hlt3, hx3]
      have HFx := Aside0.mk (show sumT (stepT n3 x3) (l0_3.drop (i3 + 1)) = T3 by have h := HF3.out; rw [hdr] at h; exact h)
      have Hw3 : Aside0 (wrap64 ((i3 : Int) + 1) = (i3 : Int) + 1) := ⟨by have h := (Kd.C_below HR3.out HB.out).2.1; exact wrap64_id (by omega) (by omega)⟩
      obtain ⟨ad3, A3_2, c3_2, e101, h3_0, h3_1, h3_2, h3_3, hl3_2, hi3_2⟩ := at_T64 (Kd.C_below HR3.out HB.out) (i3 : Int) p101 q101
      cases e101
      rw [Int.toNat_natCast] at h3_0 h3_1 h3_2 h3_3
      have hr : rd_T64 l0_3 (i3 : Int) = x3 := by rw [hx3]; simp [rd_T64, hlt3]
      rw [hr] at h3_0 h3_1 h3_2 h3_3 hl3_2 hi3_2
      clear HF3 hdr hr hx3
      have HF3 := HFx
      clear HFx
      replace p101 := eq_true p101
      replace q101 := eq_true q101
      go_wp2_with (first | (fail))
      go_roundg kk3
      case measure => have := HK3.out; omega
      case rel => exact ⟨i3 + 1, _, rfl, by rw [Hw3.out]; rfl, ⟨by have := HK3.out; omega⟩, by omega, HF3, ⟨blk_alloc BK0.out _⟩, ⟨below_alloc HB.out _⟩⟩
    · have hlt' : decide ((i3 : Int) < (l0_3.length : Int)) = false := by simpa using hlt3
      have HN := Aside0.mk (show n3 = T3 by have h := HF3.out; rw [List.drop_of_length_le (by omega)] at h; exact h)
      have g4 : wr.cell? ⟨w.heap.size, 4, none⟩ = some (.slice A0_4 l0_4.length c0_4) := blk_cell BK0.out 4
      go_wp2_with (first | (fail))
      have HTD := Aside0.mk (show sumD n3 (l0_4.drop 0) = T4 by rw [HN.out]; exact HT4.out)
      clear g4 HN HF3 HT4
      go_loopg [3, 69] l0_4.length (fun kq v3 v69 w' => ∃ (i : Nat) (n : Int), v3 = .int .i64 n ∧ v69 = .int .i64 i ∧ Aside0 (i + kq = l0_4.length) ∧ i ≤ l0_4.length ∧ Aside0 (sumD n (l0_4.drop i) = T4) ∧ Aside0 (w'.heap[w.heap.size]? = some (.cells #[.int .i64 a0_0, .slice A0_1 l0_1.length c0_1, .slice A0_2 l0_2.length c0_2, .slice A0_3 l0_3.length c0_3, .slice A0_4 l0_4.length c0_4] 35 (0, 0))) ∧ Aside0 (Below w.heap.size w w'))
      case atStart => exact ⟨0, _, rfl, rfl, ⟨by omega⟩, Nat.zero_le _, HTD, BK0, HB⟩
      case round =>
      clear HTD BK0 HB
      obtain ⟨i4, n4, rfl, rfl, HK4, hi4, HF4, BK0, HB⟩ := hrel
      by_cases hlt4 : i4 < l0_4.length
      · have hlt' : decide ((i4 : Int) < (l0_4.length : Int)) = true := by simpa using hlt4
        obtain ⟨kk4, rfl⟩ : ∃ m, gk = m + 1 := ⟨gk - 1, by have := HK4.out; omega⟩
        have p101 : 0 ≤ (i4 : Int) := Int.natCast_nonneg i4
        have q101 : (i4 : Int) < (l0_4.length : Int) := by omega
        obtain ⟨x4, hx4⟩ : ∃ x, x = l0_4[i4] := ⟨_, rfl⟩
        have hdr : l0_4.drop i4 = x4 :: l0_4.drop (i4 + 1) := by rw [List.drop_eq_getElem_cons hlt4, hx4]
        have HFx := Aside0.mk (show sumD (stepD n4 x4) (l0_4.drop (i4 + 1)) = T4 by have h := HF4.out; rw [hdr] at h; exact h)
        have Hw4 : Aside0 (wrap64 ((i4 : Int) + 1) = (i4 : Int) + 1) := ⟨by have h := (Kd.C_below HR4.out HB.out).2.1; exact wrap64_id (by omega) (by omega)⟩
        obtain ⟨ad4, A4_1, c4_1, A4_3, c4_3, e101, h4_0, h4_1, h4_2, h4_3, hl4_1, hi4_1, hl4_3, hi4_3⟩ := at_T25 (Kd.C_below HR4.out HB.out) (i4 : Int) p101 q101
        cases e101
        rw [Int.toNat_natCast] at h4_0 h4_1 h4_2 h4_3
        have hr : rd_T25 l0_4 (i4 : Int) = x4 := by rw [hx4]; simp [rd_T25, hlt4]
        rw [hr] at h4_0 h4_1 h4_2 h4_3 hl4_1 hi4_1 hl4_3 hi4_3
        clear HF4 hdr hr hx4
        have HF4 := HFx
        clear HFx
        replace p101 := eq_true p101
        replace q101 := eq_true q101
        have HI1 := Aside0.mk hi4_1
        have HI3 := Aside0.mk hi4_3
        clear hi4_1 hl4_1 hi4_3 hl4_3
        obtain ⟨TS, hTS⟩ : ∃ TS, TS = sumSt (wrap64 (n4 + wrap64 (wrap64 (1 + (x4.f0.size : Int)) + (x4.f2.size : Int)))) x4.f1 := ⟨_, rfl⟩
        obtain ⟨TA, hTA⟩ : ∃ TA, TA = sumA TS x4.f3 := ⟨_, rfl⟩
        have HFD := Aside0.mk (show sumD TA (l0_4.drop (i4 + 1)) = T4 by have h := HF4.out; unfold stepD at h; rw [← hTS, ← hTA] at h; exact h)
        have HTS := Aside0.mk (show sumSt (wrap64 (n4 + wrap64 (wrap64 (1 + (x4.f0.size : Int)) + (x4.f2.size : Int)))) (x4.f1.drop 0) = TS from hTS.symm)
        have HTA := Aside0.mk (show sumA TS (x4.f3.drop 0) = TA from hTA.symm)
        clear hTS hTA HF4
        go_wp2_with (first | (fail))
        have BKd := Aside0.mk (show (wr.alloc (Obj.cells #[Value.string x4.f0, Value.slice A4_1 x4.f1.length c4_1, Value.string x4.f2, Value.slice A4_3 x4.f3.length c4_3] 25)).heap[wr.heap.size]? = some (.cells #[Value.string x4.f0, Value.slice A4_1 x4.f1.length c4_1, Value.string x4.f2, Value.slice A4_3 x4.f3.length c4_3] 25 (0, 0)) from blk_new _ _)
        have hbn := below_alloc (Below.refl wr.heap.size wr) (Obj.cells #[Value.string x4.f0, Value.slice A4_1 x4.f1.length c4_1, Value.string x4.f2, Value.slice A4_3 x4.f3.length c4_3] 25)
        have n0_ := Aside0.mk (below_step HB.out hbn)
        have n1_ := Aside0.mk (blk_below BK0.out hbn)
        have n2_ := Aside0.mk (Kd.C_below HI1.out hbn)
        have n3_ := Aside0.mk (Kd.C_below HI3.out hbn)
        clear HB BK0 HI1 HI3 hbn
        have HB := n0_; have BK0 := n1_; have HI1 := n2_; have HI3 := n3_
        clear n0_ n1_ n2_ n3_
        obtain ⟨db, hdb⟩ : ∃ db, db = wr.heap.size := ⟨_, rfl⟩
        rw [← hdb] at BKd ⊢
        clear hdb
        generalize wr.alloc (Obj.cells #[Value.string x4.f0, Value.slice A4_1 x4.f1.length c4_1, Value.string x4.f2, Value.slice A4_3 x4.f3.length c4_3] 25) = w5 at HB BK0 HI1 HI3 BKd ⊢
        go_loopg [3, 86] x4.f1.length (fun kq v3 v86 w' => ∃ (i : Nat) (n : Int), v3 = .int .i64 n ∧ v86 = .int .i64 i ∧ Aside0 (i + kq = x4.f1.length) ∧ i ≤ x4.f1.length ∧ Aside0 (sumSt n (x4.f1.drop i) = TS) ∧ Aside0 (w'.heap[db]? = some (.cells #[Value.string x4.f0, Value.slice A4_1 x4.f1.length c4_1, Value.string x4.f2, Value.slice A4_3 x4.f3.length c4_3] 25 (0, 0))) ∧ Aside0 (Below w5.heap.size w5 w') ∧ Aside0 (w'.heap[w.heap.size]? = some (.cells #[.int .i64 a0_0, .slice A0_1 l0_1.length c0_1, .slice A0_2 l0_2.length c0_2, .slice A0_3 l0_3.length c0_3, .slice (some ad4) l0_4.length c0_4] 35 (0, 0))) ∧ Aside0 (Below w.heap.size w w'))
        case atStart => exact ⟨0, _, rfl, rfl, ⟨by omega⟩, Nat.zero_le _, HTS, BKd, ⟨Below.refl _ _⟩, BK0, HB⟩
        case round =>
        clear HTS BKd BK0 HB
        obtain ⟨i5, n5, rfl, rfl, HK5, hi5, HF5, BKd, HB5, BK0, HB⟩ := hrel
        by_cases hlt5 : i5 < x4.f1.length
        · have hlt' : decide ((i5 : Int) < (x4.f1.length : Int)) = true := by simpa using hlt5
          obtain ⟨kk5, rfl⟩ : ∃ m, gk = m + 1 := ⟨gk - 1, by have := HK5.out; omega⟩
          have p101 : 0 ≤ (i5 : Int) := Int.natCast_nonneg i5
          have q101 : (i5 : Int) < (x4.f1.length : Int) := by omega
          obtain ⟨x5, hx5⟩ : ∃ x, x = x4.f1[i5] := ⟨_, rfl⟩
          have hdr : x4.f1.drop i5 = x5 :: x4.f1.drop (i5 + 1) := by rw [List.drop_eq_getElem_cons hlt5, hx5]
          have HFx := Aside0.mk (show sumSt (stepS n5 x5) (x4.f1.drop (i5 + 1)) = TS by have h := HF5.out; rw [hdr] at h; exact h)
          have Hw5 : Aside0 (wrap64 ((i5 : Int) + 1) = (i5 : Int) + 1) := ⟨by have h := (Kd.C_below HI1.out HB5.out).2.1; exact wrap64_id (by omega) (by omega)⟩
          obtain ⟨ad, e101, h5_0⟩ := Kd.at_string (Kd.C_below HI1.out HB5.out) (i5 : Int) p101 q101
          cases e101
          rw [Int.toNat_natCast] at h5_0
          have hr : rdOf ByteArray.empty x4.f1 (i5 : Int) = x5 := by rw [hx5]; simp [rdOf, hlt5]
          rw [hr] at h5_0
          clear HF5 hdr hr hx5
          have HF5 := HFx
          clear HFx
          replace p101 := eq_true p101
          replace q101 := eq_true q101
          go_wp2_with (first | (fail))
          go_roundg kk5
          case measure => have := HK5.out; omega
          case rel => exact ⟨i5 + 1, _, rfl, by rw [Hw5.out]; rfl, ⟨by have := HK5.out; omega⟩, by omega, HF5, BKd, HB5, BK0, HB⟩
        · have hlt' : decide ((i5 : Int) < (x4.f1.length : Int)) = false := by simpa using hlt5
          have HN := Aside0.mk (show n5 = TS by have h := HF5.out; rw [List.drop_of_length_le (by omega)] at h; exact h)
          have g5 : wr.cell? ⟨db, 3, none⟩ = some (.slice A4_3 x4.f3.length c4_3) := blk_cell BKd.out 3
          go_wp2_with (first | (fail))
          have HTB := Aside0.mk (show sumA n5 (x4.f3.drop 0) = TA by rw [HN.out]; exact HTA.out)
          clear g5 HN HF5 HTA
          go_loopg [3, 99] x4.f3.length (fun kq v3 v99 w' => ∃ (i : Nat) (n : Int), v3 = .int .i64 n ∧ v99 = .int .i64 i ∧ Aside0 (i + kq = x4.f3.length) ∧ i ≤ x4.f3.length ∧ Aside0 (sumA n (x4.f3.drop i) = TA) ∧ Aside0 (Below w5.heap.size w5 w') ∧ Aside0 (w'.heap[w.heap.size]? = some (.cells #[.int .i64 a0_0, .slice A0_1 l0_1.length c0_1, .slice A0_2 l0_2.length c0_2, .slice A0_3 l0_3.length c0_3, .slice (some ad4) l0_4.length c0_4] 35 (0, 0))) ∧ Aside0 (Below w.heap.size w w'))
          case atStart => exact ⟨0, _, rfl, rfl, ⟨by omega⟩, Nat.zero_le _, HTB, HB5, BK0, HB⟩
          case round =>
          clear HTB HB5 BK0 HB
          obtain ⟨i6, n6, rfl, rfl, HK6, hi6, HF6, HB5, BK0, HB⟩ := hrel
          by_cases hlt6 : i6 < x4.f3.length
          · have hlt' : decide ((i6 : Int) < (x4.f3.length : Int)) = true := by simpa using hlt6
            obtain ⟨kk6, rfl⟩ : ∃ m, gk = m + 1 := ⟨gk - 1, by have := HK6.out; omega⟩
            have p101 : 0 ≤ (i6 : Int) := Int.natCast_nonneg i6
            have q101 : (i6 : Int) < (x4.f3.length : Int) := by omega
            obtain ⟨x6, hx6⟩ : ∃ x, x = x4.f3[i6] := ⟨_, rfl⟩
            have hdr : x4.f3.drop i6 = x6 :: x4.f3.drop (i6 + 1) := by rw [List.drop_eq_getElem_cons hlt6, hx6]
            have HFx := Aside0.mk (show sumA (stepA n6 x6) (x4.f3.drop (i6 + 1)) = TA by have h := HF6.out; rw [hdr] at h; exact h)
            have Hw6 : Aside0 (wrap64 ((i6 : Int) + 1) = (i6 : Int) + 1) := ⟨by have h := (Kd.C_below HI3.out HB5.out).2.1; exact wrap64_id (by omega) (by omega)⟩
            obtain ⟨ad6, A6_3, c6_3, e101, h6_0, h6_1, h6_2, h6_3, hl6_3, hi6_3⟩ := at_T65 (Kd.C_below HI3.out HB5.out) (i6 : Int) p101 q101
            cases e101
            rw [Int.toNat_natCast] at h6_0 h6_1 h6_2 h6_3
            have hr : rd_T65 x4.f3 (i6 : Int) = x6 := by rw [hx6]; simp [rd_T65, hlt6]
            rw [hr] at h6_0 h6_1 h6_2 h6_3 hl6_3 hi6_3
            clear HF6 hdr hr hx6
            have HF6 := HFx
            clear HFx
            replace p101 := eq_true p101
            replace q101 := eq_true q101
            go_wp2_with (first | (fail))
            go_roundg kk6
            case measure => have := HK6.out; omega
            case rel => exact ⟨i6 + 1, _, rfl, by rw [Hw6.out]; rfl, ⟨by have := HK6.out; omega⟩, by omega, HF6, ⟨below_alloc HB5.out _⟩, ⟨blk_alloc BK0.out _⟩, ⟨below_alloc HB.out _⟩⟩
          · have hlt' : decide ((i6 : Int) < (x4.f3.length : Int)) = false := by simpa using hlt6
            have HN := Aside0.mk (show n6 = TA by have h := HF6.out; rw [List.drop_of_length_le (by omega)] at h; exact h)
            go_wp2_with (first | (fail))
            go_roundg kk4
            case measure => have := HK4.out; omega
            case rel => exact ⟨i4 + 1, _, rfl, by rw [Hw4.out]; rfl, ⟨by have := HK4.out; omega⟩, by omega, ⟨by rw [HN.out]; exact HFD.out⟩, BK0, HB⟩
      · have hlt' : decide ((i4 : Int) < (l0_4.length : Int)) = false := by simpa using hlt4
        have HN := Aside0.mk (show n4 = T4 by have h := HF4.out; rw [List.drop_of_length_le (by omega)] at h; exact h)
        have HD := Aside0.mk (show decide (n4 ≤ 6000) = decide (T4 ≤ 6000) by rw [HN.out])
        go_wp2_with (first | (fail))
        go_ret
        exact ⟨by rw [← HD.out]; rfl, HB.out⟩
theorem vPut_bound (v : Nat) : ∀ c ∈ vPut v, c < 256 := by
  induction v using Nat.strongRecOn with
  | _ v ih =>
    by_cases h : v < 128
    · rw [vPut_lt h]; intro c hc; simp at hc; omega
    · rw [vPut_ge h]; intro c hc
      rcases List.mem_cons.1 hc with rfl | hc
      · omega
      · exact ih _ (by omega) c hc
theorem ns_strOfNums (l : List Nat) (h : ∀ c ∈ l, c < 256) : ns (strOfNums (l.map Int.ofNat)) = l := by
  unfold ns strOfNums
  simp only [List.map_map]
  refine (List.map_congr_left (g := id) ?_).trans (List.map_id _)
  intro c hc
  have := h c hc
  simp [UInt8.toNat_ofNat']
  omega
theorem ns_vStr (v : Nat) : ns (vStr v) = vPut v := ns_strOfNums _ (vPut_bound v)
theorem ns_append (a b : ByteArray) : ns (a ++ b) = ns a ++ ns b := by
  simp [ns, ByteArray.data_append]
theorem ns_inj {a b : ByteArray} (h : ns a = ns b) : a = b := by
  have : a.data.toList = b.data.toList := by
    unfold ns at h
    exact (List.map_inj_right (fun x y e => UInt8.toNat_inj.1 e)).1 h
  cases a; cases b; simp_all
theorem ns_extract (s : ByteArray) (i j : Nat) : ns (s.extract i j) = ((ns s).drop i).take (j - i) := by
  simp [ns, ByteArray.data_extract, List.map_drop, List.map_take, Array.toList_extract, List.extract_eq_take_drop]
theorem vStr_size (v : Nat) : (vStr v).size = vSize v := by rw [← ns_length, ns_vStr, vPut_length]
theorem readS_put (v : Nat) : ∀ (l : List Nat) (n u : Nat), n ≤ 9 → v * 128 ^ n < 18446744073709551616 → readS (vPut v ++ l) n u = (u + v * 128 ^ n, n + vSize v, 0) := by
  induction v using Nat.strongRecOn with
  | _ v ih =>
    intro l n u hn hv
    by_cases h : v < 128
    · rw [vPut_lt h, vSize_lt h, List.singleton_append, readS_cons, if_pos h]
      intro h9; subst h9; omega
    · have hn9 : n < 9 := by
        rcases Nat.lt_or_ge n 9 with h9 | h9
        · exact h9
        · obtain rfl : n = 9 := by omega
          omega
      rw [vPut_ge h, vSize_ge h, List.cons_append, readS_cons (by omega), if_neg (by omega), show (v % 128 + 128) % 128 = v % 128 by omega]
      have hp : 128 ^ (n + 1) = 128 * 128 ^ n := by rw [Nat.pow_succ, Nat.mul_comm]
      have hm : v / 128 * 128 ^ (n + 1) + v % 128 * 128 ^ n = v * 128 ^ n := by
        rw [hp, ← Nat.mul_assoc, ← Nat.add_mul]; congr 1; omega
      rw [ih (v / 128) (by omega) l (n + 1) _ (by omega) (by omega)]
      rw [show u + v % 128 * 128 ^ n + v / 128 * 128 ^ (n + 1) = u + v * 128 ^ n by omega, show n + 1 + vSize (v / 128) = n + (vSize (v / 128) + 1) by omega]
theorem vRead_put (v : Nat) (hv : v < 18446744073709551616) (b : ByteArray) : vRead (vStr v ++ b) = (v, vSize v, 0) := by
  unfold vRead
  rw [ns_append, ns_vStr, readS_put v _ 0 0 (by omega) (by simpa using hv)]
  simp
theorem readS_aux8 (c m : Nat) (h : m * 9223372036854775808 < 18446744073709551616) : c % 128 * 72057594037927936 + m * 9223372036854775808 < 18446744073709551616 := by
  have hc : c % 128 * 72057594037927936 ≤ 127 * 72057594037927936 := Nat.mul_le_mul_right _ (by omega)
  have hm : m ≤ 1 := by
    rcases Nat.lt_or_ge m 2 with h2 | h2
    · omega
    · exact absurd (Nat.mul_le_mul_right 9223372036854775808 h2) (Nat.not_le.2 h)
  have hm2 : m * 9223372036854775808 ≤ 1 * 9223372036854775808 := Nat.mul_le_mul_right _ hm
  exact Nat.lt_of_le_of_lt (Nat.add_le_add hc hm2) (by decide)
theorem readS_aux9 {c : Nat} (h9 : ¬ (9 = 9 ∧ 1 < c)) (hc : ¬ c < 128) : False := by omega
theorem readS_ok : ∀ (l : List Nat) (n u y k : Nat), n ≤ 9 → (∀ c ∈ l, c < 256) → readS l n u = (y, k, 0) →
    ∃ m, y = u + m * 128 ^ n ∧ n + vSize m ≤ k ∧ k ≤ n + l.length ∧ k ≤ 10 ∧ m * 128 ^ n < 18446744073709551616 ∧ (n + vSize m = k → l.take (k - n) = vPut m) := by
  intro l
  induction l with
  | nil => intro n u y k _ _ h; simp [readS] at h
  | cons c l ih =>
    intro n u y k hn hb h
    by_cases h9 : n = 9 ∧ 1 < c
    · rw [readS, if_pos h9] at h; simp at h
    · rw [readS_cons (by omega)] at h
      have hp : 128 ^ (n + 1) = 128 * 128 ^ n := by rw [Nat.pow_succ, Nat.mul_comm]
      by_cases hc : c < 128
      · rw [if_pos hc] at h
        simp only [Prod.mk.injEq] at h
        obtain ⟨rfl, rfl, -⟩ := h
        refine ⟨c, rfl, by rw [vSize_lt hc]; omega, by simp, by omega, ?_, ?_⟩
        · rcases Nat.lt_or_ge n 9 with h | h
          · have h1 : 128 ^ n ≤ 128 ^ 8 := Nat.pow_le_pow_right (by decide) (by omega)
            have h2 : c * 128 ^ n ≤ 127 * 128 ^ 8 := Nat.mul_le_mul (by omega) h1
            omega
          · obtain rfl : n = 9 := by omega
            have h2 : c * 128 ^ 9 ≤ 1 * 128 ^ 9 := Nat.mul_le_mul_right _ (by omega)
            omega
        · intro _
          rw [vPut_lt hc, show n + 1 - n = 1 by omega]; rfl
      · rw [if_neg hc] at h
        have hb' := hb c (List.mem_cons_self ..)
        obtain ⟨m, h1, h2, h3, h4, h5, h6⟩ := ih (n + 1) _ y k (by omega) (fun x hx => hb x (List.mem_cons_of_mem _ hx)) h
        have hpos := vSize_pos m
        have hm : (c % 128 + 128 * m) * 128 ^ n = c % 128 * 128 ^ n + m * 128 ^ (n + 1) := by
          rw [hp, Nat.add_mul, Nat.mul_comm 128 m, Nat.mul_assoc]
        refine ⟨c % 128 + 128 * m, by rw [hm]; omega, ?_, by simp; omega, h4, ?_, ?_⟩
        · by_cases hs : c % 128 + 128 * m < 128
          · rw [vSize_lt hs]; omega
          · rw [vSize_ge hs, show (c % 128 + 128 * m) / 128 = m by omega]; omega
        · rw [hm]
          rcases Nat.lt_or_ge n 8 with h8 | h8
          · have : n + 1 ≤ 8 := h8
            have hx : m * 128 ^ (n + 1) < 18446744073709551616 := h5
            have ha : c % 128 * 128 ^ n ≤ 127 * 128 ^ n := Nat.mul_le_mul_right _ (by omega)
            rw [hp] at hx ⊢
            have hq : 18446744073709551616 = 128 * 128 ^ n * (18446744073709551616 / (128 * 128 ^ n)) := by
              obtain rfl | rfl | rfl | rfl | rfl | rfl | rfl | rfl : n = 0 ∨ n = 1 ∨ n = 2 ∨ n = 3 ∨ n = 4 ∨ n = 5 ∨ n = 6 ∨ n = 7 := by omega
              all_goals decide
            generalize 18446744073709551616 / (128 * 128 ^ n) = z at hq
            generalize 128 ^ n = p at *
            have : m < z := by
              rcases Nat.lt_or_ge m z with h | h
              · exact h
              · have : 128 * p * z ≤ 128 * p * m := Nat.mul_le_mul_left _ h
                rw [Nat.mul_comm m] at hx
                omega
            have hz : (m + 1) * (128 * p) ≤ z * (128 * p) := Nat.mul_le_mul_right _ this
            rw [Nat.add_mul, Nat.one_mul] at hz
            rw [Nat.mul_comm z] at hz
            omega
          · clear h6 h ih
            have h8' : n = 8 ∨ n = 9 := by omega
            rcases h8' with rfl | rfl
            · exact readS_aux8 c m h5
            · exact (readS_aux9 h9 hc).elim
        · intro hk
          have hs : ¬ c % 128 + 128 * m < 128 := by
            intro hs
            rw [vSize_lt hs] at hk
            omega
          rw [vSize_ge hs, show (c % 128 + 128 * m) / 128 = m by omega] at hk
          rw [vPut_ge hs, show (c % 128 + 128 * m) / 128 = m by omega, show k - n = (k - (n + 1)) + 1 by omega, List.take_succ_cons, h6 (by omega)]
          congr 1; omega
theorem vRead_ok (b : ByteArray) (y k : Nat) (h : vRead b = (y, k, 0)) : y < 18446744073709551616 ∧ vSize y ≤ k ∧ k ≤ b.size ∧ k ≤ 10 ∧ (vSize y = k → b.extract 0 k = vStr y) := by
  obtain ⟨m, h1, h2, h3, h4, h5, h6⟩ := readS_ok (ns b) 0 0 y k (by omega) (ns_lt b) h
  simp only [Nat.pow_zero, Nat.mul_one, Nat.zero_add] at *
  subst h1
  refine ⟨h5, h2, by rw [← ns_length]; exact h3, h4, fun e => ns_inj ?_⟩
  rw [ns_extract, ns_vStr]
  simpa using h6 e
def lowS : List Nat → Nat
  | [] => 0
  | c :: l => c + 256 * lowS l
theorem lowS_lt (l : List Nat) (h : ∀ c ∈ l, c < 256) : lowS l < 256 ^ l.length := by
  induction l with
  | nil => simp [lowS]
  | cons c l ih =>
    have h1 := ih (fun x hx => h x (List.mem_cons_of_mem _ hx))
    have h2 := h c (List.mem_cons_self ..)
    simp only [lowS, List.length_cons, Nat.pow_succ]
    omega
theorem lowS_snoc (l : List Nat) (c : Nat) : lowS (l ++ [c]) = lowS l + c * 256 ^ l.length := by
  induction l with
  | nil => simp [lowS]
  | cons d l ih =>
    simp only [List.cons_append, lowS, ih, List.length_cons, Nat.pow_succ]
    rw [Nat.mul_add, Nat.add_assoc, Nat.mul_comm (256 ^ l.length) 256, ← Nat.mul_assoc c, Nat.mul_comm c 256, Nat.mul_assoc]
def laidS (v n : Nat) : List Nat := (List.range n).map fun i => v / 256 ^ i % 256
theorem laidS_succ (v n : Nat) : laidS v (n + 1) = laidS v n ++ [v / 256 ^ n % 256] := by simp [laidS, List.range_succ]
theorem laidS_bound (v n : Nat) : ∀ c ∈ laidS v n, c < 256 := by
  intro c hc
  simp only [laidS, List.mem_map] at hc
  obtain ⟨i, _, rfl⟩ := hc
  exact Nat.mod_lt _ (by decide)
theorem laidS_length (v n : Nat) : (laidS v n).length = n := by simp [laidS]
theorem lowS_laidS (v n : Nat) : lowS (laidS v n) = v % 256 ^ n := by
  induction n with
  | zero => simp [laidS, lowS, Nat.mod_one]
  | succ n ih =>
    rw [laidS_succ, lowS_snoc, ih, laidS_length, Nat.pow_succ, Nat.mod_mul, Nat.mul_comm]
def laidStr (v n : Nat) : ByteArray := strOfNums ((laidS v n).map Int.ofNat)
theorem ns_laidStr (v n : Nat) : ns (laidStr v n) = laidS v n := ns_strOfNums _ (laidS_bound v n)
theorem laidStr_size (v n : Nat) : (laidStr v n).size = n := by rw [← ns_length, ns_laidStr, laidS_length]
theorem strOfNums_append (a b : List Int) : strOfNums (a ++ b) = strOfNums a ++ strOfNums b := by
  simp [strOfNums, ByteArray.append_eq, ByteArray.append, ByteArray.ext_iff, ByteArray.data_append]
theorem toList_nil {b : ByteArray} : b.toList = [] ↔ b.size = 0 := by
  rw [ByteArray.toList_eq]
  constructor
  · intro h; have := congrArg List.length h; simpa using this
  · intro h; exact List.eq_nil_of_length_eq_zero (by simpa using h)
theorem toList_inj {a b : ByteArray} : a.toList = b.toList ↔ a = b := by
  rw [ByteArray.toList_eq, ByteArray.toList_eq]
  constructor
  · intro h; cases a; cases b; simp_all
  · intro h; rw [h]
theorem wire_fixed_step (v c i : Nat) (hv : v < 256 ^ i) (hi : i ≤ 7) (hc : c < 256) :
    Go.bits .or .u64 (v : Int) (shl .u64 (IntKind.u64.wrap (c : Int)) (wrap64 (8 * (i : Int)))) = ((v + c * 256 ^ i : Nat) : Int) := by
  have e0 : wrap64 (8 * (i : Int)) = ((8 * i : Nat) : Int) := by rw [wrap64_id (by omega) (by omega)]; omega
  have hp : (256 : Nat) ^ i = 2 ^ (8 * i) := by rw [Nat.pow_mul]
  have h1 : 256 ^ i ≤ 256 ^ 7 := Nat.pow_le_pow_right (by decide) hi
  have h2 : c * 256 ^ i ≤ 255 * 256 ^ i := Nat.mul_le_mul_right _ (by omega)
  have e1 : shl .u64 (IntKind.u64.wrap (c : Int)) (wrap64 (8 * (i : Int))) = ((c * 2 ^ (8 * i) : Nat) : Int) := by
    rw [e0, u64_id (by omega) (by omega)]
    show IntKind.u64.wrap ((c : Int) * 2 ^ min ((8 * i : Nat) : Int).toNat 64) = _
    rw [Int.toNat_natCast, Nat.min_eq_left (by omega), u64_id]
    · simp
    · exact Int.mul_nonneg (by omega) (Int.pow_nonneg (by decide))
    · have : ((c : Int) * 2 ^ (8 * i)) = ((c * 2 ^ (8 * i) : Nat) : Int) := by simp
      rw [this, ← hp]; omega
  rw [e1, u64_or_nat _ _ (by omega) (by rw [← hp]; omega), Nat.or_comm, Nat.mul_comm, ← Nat.two_pow_add_eq_or_of_lt (by rw [← hp]; exact hv), ← hp, Nat.mul_comm, Nat.add_comm]
theorem tdiv256 (x : Nat) (h : x < 18446744073709551616) : IntKind.u64.wrap (Int.tdiv (x : Int) 256) = ((x / 256 : Nat) : Int) := by
  rw [Int.tdiv_eq_ediv_of_nonneg (by omega), u64_id (by omega) (by omega)]; omega
abbrev Fl := Int × Int × Int × ByteArray
def flP (x : S75) : Fl := (x.f0, x.f1, x.f2, x.f3)
def toP (x : Fl) : S75 := ⟨x.1, x.2.1, x.2.2.1, x.2.2.2⟩
def bytesS (num ty n : Int) (d : ByteArray) : ByteArray :=
  if 1 ≤ num ∧ num ≤ 536870911 ∧ (ty = 0 ∨ ty = 1 ∨ ty = 2 ∨ ty = 5) then
    if ty = 0 then vStr (8 * num + ty).toNat ++ vStr n.toNat
    else if ty = 2 then vStr (8 * num + ty).toNat ++ vStr d.size ++ d
    else if ty = 1 then vStr (8 * num + ty).toNat ++ laidStr n.toNat 8
    else if n > 4294967295 then ⟨#[]⟩ else vStr (8 * num + ty).toNat ++ laidStr n.toNat 4
  else ⟨#[]⟩
def oneS (b : ByteArray) : Fl × Nat × Nat :=
  if (vRead b).2.2 ≠ 0 then ((0, 0, 0, ⟨#[]⟩), 0, (vRead b).2.2)
  else if ¬ (1 ≤ (vRead b).1 / 8 ∧ (vRead b).1 / 8 ≤ 536870911 ∧ ((vRead b).1 % 8 = 0 ∨ (vRead b).1 % 8 = 1 ∨ (vRead b).1 % 8 = 2 ∨ (vRead b).1 % 8 = 5)) then ((0, 0, 0, ⟨#[]⟩), 0, 3)
  else if (vRead b).1 % 8 = 0 ∨ (vRead b).1 % 8 = 2 then
    let q := vRead (b.extract (vRead b).2.1 b.size)
    if q.2.2 ≠ 0 then ((0, 0, 0, ⟨#[]⟩), 0, q.2.2)
    else if (vRead b).1 % 8 = 0 then (((vRead b).1 / 8, 0, q.1, ⟨#[]⟩), (vRead b).2.1 + q.2.1, 0)
    else if b.size - ((vRead b).2.1 + q.2.1) < q.1 then ((0, 0, 0, ⟨#[]⟩), 0, 1)
    else (((vRead b).1 / 8, 2, 0, b.extract ((vRead b).2.1 + q.2.1) ((vRead b).2.1 + q.2.1 + q.1)), (vRead b).2.1 + q.2.1 + q.1, 0)
  else
    let size := if (vRead b).1 % 8 = 5 then 4 else 8
    if b.size - (vRead b).2.1 < size then ((0, 0, 0, ⟨#[]⟩), 0, 1)
    else (((vRead b).1 / 8, ((vRead b).1 % 8 : Nat), (lowS (ns (b.extract (vRead b).2.1 ((vRead b).2.1 + size))) : Nat), ⟨#[]⟩), (vRead b).2.1 + size, 0)
def fieldsF : Nat → ByteArray → List Fl × Nat
  | 0, _ => ([], 0)
  | k + 1, b => if b.size = 0 then ([], 0) else if (oneS b).2.2 ≠ 0 then ([], (oneS b).2.2)
    else if (fieldsF k (b.extract (oneS b).2.1 b.size)).2 ≠ 0 then ([], (fieldsF k (b.extract (oneS b).2.1 b.size)).2)
    else ((oneS b).1 :: (fieldsF k (b.extract (oneS b).2.1 b.size)).1, 0)
def fieldsS (b : ByteArray) : List Fl × Nat := if b.size > 1048576 then ([], 2) else fieldsF b.size b
theorem vRead_pos (b : ByteArray) (h : (vRead b).2.2 = 0) : 1 ≤ (vRead b).2.1 ∧ (vRead b).2.1 ≤ b.size ∧ (vRead b).2.1 ≤ 10 ∧ (vRead b).1 < 18446744073709551616 := by
  obtain ⟨⟨y, n, e⟩, hr⟩ : ∃ x, vRead b = x := ⟨_, rfl⟩
  rw [hr] at h ⊢
  simp only at h ⊢
  subst h
  obtain ⟨h1, h2, h3, h4, _⟩ := vRead_ok b y n hr
  have := vSize_pos y
  omega
theorem extract_size' (b : ByteArray) (i : Nat) (h : i ≤ b.size) : (b.extract i b.size).size = b.size - i := by
  rw [ByteArray.size_extract]; omega
theorem oneS_pos (b : ByteArray) (h : (oneS b).2.2 = 0) : 1 ≤ (oneS b).2.1 ∧ (oneS b).2.1 ≤ b.size := by
  unfold oneS at h ⊢
  split at h
  · rename_i h1; exact absurd h h1
  · rename_i h1
    have g := vRead_pos b (by simpa using h1)
    rw [if_neg h1]
    split at h
    · simp at h
    · rename_i h2
      rw [if_neg h2]
      split at h
      · rename_i h3
        rw [if_pos h3]
        simp only at h ⊢
        split at h
        · rename_i h4; exact absurd h h4
        · rename_i h4
          have g2 := vRead_pos (b.extract (vRead b).2.1 b.size) (by simpa using h4)
          rw [extract_size' _ _ (by omega)] at g2
          rw [if_neg h4]
          split
          · simp only; omega
          · rename_i h5
            rw [if_neg h5] at h
            split at h
            · simp at h
            · rename_i h6; rw [if_neg h6]; simp only; omega
      · rename_i h3
        rw [if_neg h3]
        obtain ⟨size, hsz⟩ : ∃ s, (if (vRead b).1 % 8 = 5 then 4 else 8) = s := ⟨_, rfl⟩
        have hs4 : 4 ≤ size := by rw [← hsz]; split <;> omega
        simp only [hsz] at h ⊢
        split at h
        · simp at h
        · rename_i h4; rw [if_neg h4]; simp only; omega
theorem fieldsF_nil (k : Nat) (b : ByteArray) (h : (fieldsF k b).2 ≠ 0) : (fieldsF k b).1 = [] := by
  cases k with
  | zero => rfl
  | succ k =>
    rw [fieldsF] at h ⊢
    by_cases h0 : b.size = 0
    · rw [if_pos h0]
    · rw [if_neg h0] at h ⊢
      by_cases h1 : (oneS b).2.2 ≠ 0
      · rw [if_pos h1]
      · rw [if_neg h1] at h ⊢
        by_cases h2 : (fieldsF k (b.extract (oneS b).2.1 b.size)).2 ≠ 0
        · rw [if_pos h2]
        · rw [if_neg h2] at h; exact absurd rfl h
def packedF : Nat → List Int → ByteArray → List Int × Nat
  | 0, out, _ => (out, 0)
  | k + 1, out, b => if b.size = 0 then (out, 0) else if (vRead b).2.2 ≠ 0 then ([], (vRead b).2.2) else if 65536 ≤ out.length then ([], 7)
    else packedF k (out ++ [wrap64 (vRead b).1]) (b.extract (vRead b).2.1 b.size)
def intsL : List Fl → List Int → List Int × Nat
  | [], out => (out, 0)
  | f :: l, out => if f.2.1 = 0 then (if 65536 ≤ out.length then ([], 7) else intsL l (out ++ [wrap64 f.2.2.1]))
    else if f.2.1 = 2 then (if (packedF f.2.2.2.size out f.2.2.2).2 ≠ 0 then ([], (packedF f.2.2.2.size out f.2.2.2).2) else intsL l (packedF f.2.2.2.size out f.2.2.2).1)
    else ([], 3)
def textsL : List Fl → List ByteArray → List ByteArray × Nat
  | [], out => (out, 0)
  | f :: l, out => if f.2.1 = 2 then textsL l (out ++ [f.2.2.2]) else ([], 3)
def catS : List Int → ByteArray
  | [] => ⟨#[]⟩
  | n :: l => vStr (IntKind.u64.wrap n).toNat ++ catS l
def putS (num : Int) (l : List Int) : ByteArray := if l = [] then ⟨#[]⟩ else bytesS num 2 0 (catS l)
theorem packedF_len (k : Nat) : ∀ (out : List Int) (b : ByteArray), out.length ≤ 65536 → (packedF k out b).1.length ≤ 65536 := by
  induction k with
  | zero => intro out b h; exact h
  | succ k ih =>
    intro out b h
    rw [packedF]
    split
    · exact h
    · split
      · simp
      · split
        · simp
        · exact ih _ _ (by simp; omega)
theorem u64_range (n : Int) : 0 ≤ IntKind.u64.wrap n ∧ IntKind.u64.wrap n < 18446744073709551616 := by rw [u64_wrap]; omega
theorem catS_size (l : List Int) : (catS l).size ≤ 10 * l.length := by
  induction l with
  | nil => exact Nat.le_refl _
  | cons n l ih =>
    have h := u64_range n
    have := vSize_10 (IntKind.u64.wrap n).toNat (by omega)
    rw [catS, ByteArray.size_append, vStr_size, List.length_cons]
    omega
theorem catS_append (a b : List Int) : catS (a ++ b) = catS a ++ catS b := by
  induction a with
  | nil => apply ns_inj; simp [catS, ns_append, ns]
  | cons n a ih => rw [List.cons_append, catS, ih, catS, ByteArray.append_assoc]
def fieldOf (x : S75) : Fl := (x.f0, x.f1, if x.f1 = 2 then 0 else x.f2, if x.f1 = 2 then x.f3 else ⟨#[]⟩)
def mayF (x : S75) : Prop := 1 ≤ x.f0 ∧ x.f0 ≤ 536870911 ∧ (x.f1 = 0 ∨ x.f1 = 1 ∨ x.f1 = 2 ∨ x.f1 = 5) ∧ (x.f1 = 5 → x.f2 ≤ 4294967295)
theorem bytes_nil (x : S75) : bytesS x.f0 x.f1 x.f2 x.f3 = ⟨#[]⟩ ↔ ¬ mayF x := by
  have hne : ∀ (v : Nat) (b : ByteArray), vStr v ++ b ≠ ⟨#[]⟩ := by
    intro v b h
    have := congrArg ByteArray.size h
    rw [ByteArray.size_append, vStr_size] at this
    have h1 := vSize_pos v
    have h2 : ByteArray.size ⟨#[]⟩ = 0 := rfl
    omega
  unfold bytesS mayF
  by_cases h : 1 ≤ x.f0 ∧ x.f0 ≤ 536870911 ∧ (x.f1 = 0 ∨ x.f1 = 1 ∨ x.f1 = 2 ∨ x.f1 = 5)
  · rw [if_pos h]
    obtain ⟨h0, h1, h2⟩ := h
    by_cases e0 : x.f1 = 0
    · rw [if_pos e0]
      exact ⟨fun g => absurd g (hne _ _), fun g => absurd ⟨h0, h1, h2, by omega⟩ g⟩
    · rw [if_neg e0]
      by_cases e2 : x.f1 = 2
      · rw [if_pos e2, ByteArray.append_assoc]
        exact ⟨fun g => absurd g (hne _ _), fun g => absurd ⟨h0, h1, h2, by omega⟩ g⟩
      · rw [if_neg e2]
        by_cases e1 : x.f1 = 1
        · rw [if_pos e1]
          exact ⟨fun g => absurd g (hne _ _), fun g => absurd ⟨h0, h1, h2, by omega⟩ g⟩
        · rw [if_neg e1]
          by_cases e4 : x.f2 > 4294967295
          · rw [if_pos e4]
            exact ⟨fun _ g => by have := g.2.2.2 (by omega); omega, fun _ => rfl⟩
          · rw [if_neg e4]
            exact ⟨fun g => absurd g (hne _ _), fun g => absurd ⟨h0, h1, h2, by omega⟩ g⟩
  · rw [if_neg h]
    exact ⟨fun _ g => h ⟨g.1, g.2.1, g.2.2.1⟩, fun _ => rfl⟩
theorem drop_put (v : Nat) (r : List Nat) : (vPut v ++ r).drop (vSize v) = r := by
  rw [← vPut_length, List.drop_left]
theorem oneS_bytes (x : S75) (rest : ByteArray) (hm : mayF x) (h2 : 0 ≤ x.f2) (h2' : x.f2 < 18446744073709551616) (h3 : x.f3.size ≤ 140737488351232) :
    oneS (bytesS x.f0 x.f1 x.f2 x.f3 ++ rest) = (fieldOf x, (bytesS x.f0 x.f1 x.f2 x.f3).size, 0) := by
  obtain ⟨m0, m1, m2, m3⟩ := hm
  obtain ⟨num, en⟩ := Int.eq_ofNat_of_zero_le (show 0 ≤ x.f0 by omega)
  obtain ⟨ty, et⟩ := Int.eq_ofNat_of_zero_le (show 0 ≤ x.f1 by omega)
  obtain ⟨v, ev⟩ := Int.eq_ofNat_of_zero_le h2
  have htag : (8 * x.f0 + x.f1).toNat = 8 * num + ty := by omega
  have hmay : 1 ≤ x.f0 ∧ x.f0 ≤ 536870911 ∧ (x.f1 = 0 ∨ x.f1 = 1 ∨ x.f1 = 2 ∨ x.f1 = 5) := ⟨m0, m1, m2⟩
  have hlt : 8 * num + ty < 18446744073709551616 := by omega
  have hs10 := vSize_10 _ hlt
  obtain ⟨body, hb⟩ : ∃ body, bytesS x.f0 x.f1 x.f2 x.f3 = vStr (8 * num + ty) ++ body ∧ (ty = 0 → body = vStr v) ∧ (ty = 2 → body = vStr x.f3.size ++ x.f3) ∧ (ty = 1 → body = laidStr v 8) ∧ (ty = 5 → body = laidStr v 4) := by
    unfold bytesS
    rw [if_pos hmay, htag]
    rcases m2 with e | e | e | e
    · rw [if_pos e, ev]; exact ⟨_, rfl, fun _ => rfl, fun g => by omega, fun g => by omega, fun g => by omega⟩
    · rw [if_neg (by omega), if_neg (by omega), if_pos e, ev]; exact ⟨_, rfl, fun g => by omega, fun g => by omega, fun _ => rfl, fun g => by omega⟩
    · rw [if_neg (by omega), if_pos e, ByteArray.append_assoc]; exact ⟨_, rfl, fun g => by omega, fun _ => rfl, fun g => by omega, fun g => by omega⟩
    · have := m3 e
      rw [if_neg (by omega), if_neg (by omega), if_neg (by omega), if_neg (by omega), ev]; exact ⟨_, rfl, fun g => by omega, fun g => by omega, fun g => by omega, fun _ => rfl⟩
  obtain ⟨hb, b0, b2, b1, b5⟩ := hb
  have hr : vRead (bytesS x.f0 x.f1 x.f2 x.f3 ++ rest) = (8 * num + ty, vSize (8 * num + ty), 0) := by
    rw [hb, ByteArray.append_assoc, vRead_put _ hlt]
  have hsz : (bytesS x.f0 x.f1 x.f2 x.f3).size = vSize (8 * num + ty) + body.size := by rw [hb, ByteArray.size_append, vStr_size]
  have hsz2 : (bytesS x.f0 x.f1 x.f2 x.f3 ++ rest).size = vSize (8 * num + ty) + body.size + rest.size := by rw [ByteArray.size_append, hsz]
  have hns : ns (bytesS x.f0 x.f1 x.f2 x.f3 ++ rest) = vPut (8 * num + ty) ++ (ns body ++ ns rest) := by
    rw [hb, ns_append, ns_append, ns_vStr, List.append_assoc]
  have hex : (bytesS x.f0 x.f1 x.f2 x.f3 ++ rest).extract (vSize (8 * num + ty)) (bytesS x.f0 x.f1 x.f2 x.f3 ++ rest).size = body ++ rest := by
    apply ns_inj
    rw [ns_extract, hns, drop_put, ns_append, List.take_of_length_le]
    rw [hsz2, List.length_append, ns_length, ns_length]; omega
  unfold oneS fieldOf
  simp only [hr, hex]
  have hn8 : (8 * num + ty) / 8 = num := by omega
  have hm8 : (8 * num + ty) % 8 = ty := by omega
  rw [hn8, hm8]
  rw [if_neg (show ¬ ((0 : Nat) ≠ 0) by simp), if_neg (show ¬ ¬ (1 ≤ num ∧ num ≤ 536870911 ∧ (ty = 0 ∨ ty = 1 ∨ ty = 2 ∨ ty = 5)) by omega)]
  rcases m2 with e | e | e | e
  · obtain rfl : ty = 0 := by omega
    have hbody := b0 rfl
    rw [if_pos (Or.inl rfl), hbody, vRead_put v (by omega)]
    rw [hbody, vStr_size] at hsz
    simp only [hsz]
    rw [if_neg (show ¬ ((0 : Nat) ≠ 0) by simp), if_pos trivial]
    have e8 : (((8 * num + 0 : Nat) : Int) / 8) = (num : Int) := by omega
    rw [e8]
    simp [en, et, ev]
  · obtain rfl : ty = 1 := by omega
    have hbody := b1 rfl
    rw [hbody, laidStr_size] at hsz hsz2
    have hx : ns ((bytesS x.f0 x.f1 x.f2 x.f3 ++ rest).extract (vSize (8 * num + 1)) (vSize (8 * num + 1) + 8)) = laidS v 8 := by
      rw [ns_extract, hns, drop_put, hbody, ns_laidStr, show vSize (8 * num + 1) + 8 - vSize (8 * num + 1) = (laidS v 8).length by rw [laidS_length]; omega, List.take_left]
    rw [if_neg (by omega)]
    simp only [show ¬ ((1 : Nat) = 5) by decide, if_false, hx, lowS_laidS, hsz2, hsz]
    have e8 : (((8 * num + 1 : Nat) : Int) / 8) = (num : Int) := by omega
    rw [if_neg (by omega), if_neg (by omega), if_neg (by omega), show v % 256 ^ 8 = v from Nat.mod_eq_of_lt (by omega), e8]
    simp [en, et, ev]
  · obtain rfl : ty = 2 := by omega
    have hbody := b2 rfl
    rw [if_pos (Or.inr rfl)]
    have hq : vRead (body ++ rest) = (x.f3.size, vSize x.f3.size, 0) := by
      rw [hbody, ByteArray.append_assoc, vRead_put _ (by omega)]
    simp only [hq]
    have hbz : body.size = vSize x.f3.size + x.f3.size := by rw [hbody, ByteArray.size_append, vStr_size]
    rw [hbz] at hsz hsz2
    have hx : (bytesS x.f0 x.f1 x.f2 x.f3 ++ rest).extract (vSize (8 * num + 2) + vSize x.f3.size) (vSize (8 * num + 2) + vSize x.f3.size + x.f3.size) = x.f3 := by
      apply ns_inj
      rw [ns_extract, hns, hbody, ← List.drop_drop, drop_put, ns_append, ns_vStr, List.append_assoc, drop_put]
      rw [show vSize (8 * num + 2) + vSize x.f3.size + x.f3.size - (vSize (8 * num + 2) + vSize x.f3.size) = (ns x.f3).length by rw [ns_length]; omega, List.take_left]
    have e8 : (((8 * num + 2 : Nat) : Int) / 8) = (num : Int) := by omega
    rw [if_neg (show ¬ ((0 : Nat) ≠ 0) by simp), if_neg (show ¬ (2 = 0) by decide), hsz2, if_neg (by omega), hx, hsz, if_pos e, if_pos e, e8]
    simp [en, et, Nat.add_assoc]
  · obtain rfl : ty = 5 := by omega
    have hbody := b5 rfl
    have h4 := m3 e
    rw [hbody, laidStr_size] at hsz hsz2
    have hx : ns ((bytesS x.f0 x.f1 x.f2 x.f3 ++ rest).extract (vSize (8 * num + 5)) (vSize (8 * num + 5) + 4)) = laidS v 4 := by
      rw [ns_extract, hns, drop_put, hbody, ns_laidStr, show vSize (8 * num + 5) + 4 - vSize (8 * num + 5) = (laidS v 4).length by rw [laidS_length]; omega, List.take_left]
    rw [if_neg (by omega)]
    simp only [if_true, hx, lowS_laidS, hsz2, hsz]
    have e8 : (((8 * num + 5 : Nat) : Int) / 8) = (num : Int) := by omega
    rw [if_neg (by omega), if_neg (by omega), if_neg (by omega), show v % 256 ^ 4 = v from Nat.mod_eq_of_lt (by omega), e8]
    simp [en, et, ev]
def laidF : List (S75) → ByteArray
  | [] => ⟨#[]⟩
  | x :: l => bytesS x.f0 x.f1 x.f2 x.f3 ++ laidF l
theorem fieldsF_laid (l : List (S75)) (hl : ∀ x ∈ l, mayF x ∧ 0 ≤ x.f2 ∧ x.f2 < 18446744073709551616 ∧ x.f3.size ≤ 140737488351232) : ∀ d, l.length ≤ d → fieldsF d (laidF l) = (l.map fieldOf, 0) := by
  induction l with
  | nil =>
    intro d _
    cases d with
    | zero => rfl
    | succ d => rfl
  | cons x l ih =>
    intro d hd
    obtain ⟨d, rfl⟩ : ∃ m, d = m + 1 := ⟨d - 1, by simp at hd; omega⟩
    obtain ⟨h0, h1, h2, h3⟩ := hl x (List.mem_cons_self ..)
    have ho := oneS_bytes x (laidF l) h0 h1 h2 h3
    have hpos := oneS_pos (bytesS x.f0 x.f1 x.f2 x.f3 ++ laidF l) (by rw [ho])
    rw [ho] at hpos
    have hex : (bytesS x.f0 x.f1 x.f2 x.f3 ++ laidF l).extract (bytesS x.f0 x.f1 x.f2 x.f3).size (bytesS x.f0 x.f1 x.f2 x.f3 ++ laidF l).size = laidF l := by
      apply ns_inj
      rw [ns_extract, ns_append, show (bytesS x.f0 x.f1 x.f2 x.f3).size = (ns (bytesS x.f0 x.f1 x.f2 x.f3)).length from (ns_length _).symm, List.drop_left, List.take_of_length_le]
      rw [ByteArray.size_append, ns_length, ns_length]; omega
    have hi := ih (fun y hy => hl y (List.mem_cons_of_mem _ hy)) d (by simp at hd; omega)
    show fieldsF (d + 1) (bytesS x.f0 x.f1 x.f2 x.f3 ++ laidF l) = _
    rw [fieldsF, if_neg (by simp only at hpos; omega), ho]
    simp only [hex, hi]
    simp
theorem bytes_size (x : S75) (h2 : 0 ≤ x.f2) (h2' : x.f2 < 18446744073709551616) (h3 : x.f3.size ≤ 140737488351232) : (bytesS x.f0 x.f1 x.f2 x.f3).size ≤ 20 + x.f3.size := by
  unfold bytesS
  split
  · rename_i h
    have hs := vSize_10 (8 * x.f0 + x.f1).toNat (by omega)
    have hv := vSize_10 x.f2.toNat (by omega)
    have hd := vSize_10 x.f3.size (by omega)
    split
    · rw [ByteArray.size_append, vStr_size, vStr_size]; omega
    · split
      · rw [ByteArray.size_append, ByteArray.size_append, vStr_size, vStr_size]; omega
      · split
        · rw [ByteArray.size_append, vStr_size, laidStr_size]; omega
        · split
          · show 0 ≤ _; omega
          · rw [ByteArray.size_append, vStr_size, laidStr_size]; omega
  · show 0 ≤ _; omega
theorem laidF_len (l : List (S75)) (hl : ∀ x ∈ l, mayF x) : l.length ≤ (laidF l).size := by
  induction l with
  | nil => simp
  | cons x l ih =>
    have h1 := ih (fun y hy => hl y (List.mem_cons_of_mem _ hy))
    have h2 : (bytesS x.f0 x.f1 x.f2 x.f3).size ≠ 0 := by
      intro h
      have : bytesS x.f0 x.f1 x.f2 x.f3 = ⟨#[]⟩ := ns_inj (List.eq_nil_of_length_eq_zero (by rw [ns_length]; exact h))
      exact ((bytes_nil x).1 this) (hl x (List.mem_cons_self ..))
    simp only [List.length_cons, laidF, ByteArray.size_append]
    omega
end Go.Proofs.YthidedmnmdlfkaaGreat.X
