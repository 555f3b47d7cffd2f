import Derived.Test.YtpojamikfcmnoaaMTensorTells3
import Derived.Test.YtpojamikfcmnoaaMTensorTells10
import Derived.Test.YtpojamikfcmnoaaMTensorTells18
import Derived.Test.YtpojamikfcmnoaaMTensorTells11
import Derived.Test.YtpojamikfcmnoaaMTensorTells12
import Derived.Test.YtpojamikfcmnoaaMTensorTells13
import Derived.Test.YtpojamikfcmnoaaMTensorTells14
import Derived.Test.YtpojamikfcmnoaaMTensorTells7
import Derived.Test.YtpojamikfcmnoaaMTensorTells15
import Derived.Test.YtpojamikfcmnoaaMTensorTells17
import Derived.Test.YtpojamikfcmnoaaMTensorTells16
import Derived.Test.YtpojamikfcmnoaaMTensorTells6
import Derived.Test.YtpojamikfcmnoaaMTensorTells4
import Derived.Test.YtpojamikfcmnoaaMTensorTells5
import Derived.Test.YtpojamikfcmnoaaRows
import Derived.Test.YtpojamikfcmnoaaMTensorTells19
import Derived.WalkKit
import Derived.ProofKit
import Derived.OpenShut
import Derived.ShutString
import Derived.ChangeOld
import Derived.Below
import Derived.SizedLaws
import Derived.Carry
namespace Go.Proofs.Ytpojamikfcmnoaa.Pure
open Go.RowKit Go.Proofs.Ytpojamikfcmnoaa.X Go.Proofs.YtpojamikfcmnoaaW.PrintWords Go.Proofs.YtpojamikfcmnoaaW.PrintLast Go.Proofs.YtpojamikfcmnoaaW.PrintMore
set_option linter.unusedVariables false
set_option linter.unusedSimpArgs false
section
variable (a : List Int) (e : Int) (b : List Bool) (f : Int) (c : List (Nat × Nat)) (g : Int) (name : ByteArray) (kind : Int) (dims : List Int) (data : ByteArray) (mn : ByteArray) (mk : Int) (md : List Int) (mb : ByteArray)
theorem ceq_numR (x : ByteArray) : ceq (numR x) (floatOfInt .f64 (readR x).1, floatOfInt .f64 (readR x).2.1) = true := by
  have hb := readR_small x
  unfold ceq
  rw [Bool.and_eq_true]
  exact ⟨order_F _ (by omega) (by omega), order_F _ (by omega) (by omega)⟩
theorem tells_end (he : e = 0 ∨ a = []) (hf : f = 0 ∨ b = []) (hg : g = 0 ∨ c = []) :
    ((agatelaw07_Awake.f).bind fun t259 => (if t259 = true then (if e = 0 then (if f = 0 then (if g = 0 then (some true) else (some ((c.length : Int) == 0))) else (if (b.length : Int) = 0 then (if g = 0 then (some true) else (some ((c.length : Int) == 0))) else (none))) else (if (a.length : Int) = 0 then (if f = 0 then (if g = 0 then (some true) else (some ((c.length : Int) == 0))) else (if (b.length : Int) = 0 then (if g = 0 then (some true) else (some ((c.length : Int) == 0))) else (none))) else (none))) else (none))) = some true := by
  rw [show agatelaw07_Awake.f = some true from rfl, Option.bind_some, if_pos rfl]
  have h1 : (if g = 0 then (some true) else (some ((c.length : Int) == 0))) = some true := by
    by_cases h : g = 0
    · rw [if_pos h]
    · rw [if_neg h, hg.resolve_left h]; rfl
  rw [h1]
  have h2 : (if f = 0 then some true else if (b.length : Int) = 0 then some true else none) = some true := by
    by_cases h : f = 0
    · rw [if_pos h]
    · rw [if_neg h, hf.resolve_left h]; rfl
  rw [h2]
  by_cases h : e = 0
  · rw [if_pos h]
  · rw [if_neg h, he.resolve_left h]; rfl
theorem tells_l2 (hd : data.size ≤ 4000) (he : e = 0 ∨ a = []) (hf : f = 0 ∨ b = []) (hg : g = 0 ∨ c = []) (hc : ∀ j (h : j < c.length), 8 * j + 8 ≤ data.size ∧ c[j] = numR (data.extract (8 * j) (8 * j + 8))) (d : Nat) : ∀ (k i : Nat), c.length - i = d → i ≤ c.length → d < k →
    agatelaw07_TensorTells.l2 k a e b f c g c (c.length : Int) (i : Int) name kind dims data = some true := by
  induction d with
  | zero =>
    intro k i hdd hi hk
    obtain ⟨k, rfl⟩ : ∃ m, k = m + 1 := ⟨k - 1, by omega⟩
    simp only [agatelaw07_TensorTells.l2]
    rw [if_neg (by omega)]
    exact tells_end a e b f c g he hf hg
  | succ d ih =>
    intro k i hdd hi hk
    obtain ⟨k, rfl⟩ : ∃ m, k = m + 1 := ⟨k - 1, by omega⟩
    have hlt : i < c.length := by omega
    obtain ⟨h8, hx⟩ := hc i hlt
    have e0 : rdOf ((0, 0) : Nat × Nat) c (i : Int) = c[i] := by simp [rdOf, hlt]
    have e1 : wrap64 (8 * (i : Int)) = ((8 * i : Nat) : Int) := by
      rw [show (8 * (i : Int)) = ((8 * i : Nat) : Int) by simp]; exact wrap64_id (by omega) (by omega)
    have e2 : wrap64 (((8 * i : Nat) : Int) + 8) = ((8 * i + 8 : Nat) : Int) := by
      rw [show (((8 * i : Nat) : Int) + 8) = ((8 * i + 8 : Nat) : Int) by omega]; exact wrap64_id (by omega) (by omega)
    simp only [agatelaw07_TensorTells.l2]
    rw [if_pos (by omega), if_pos (by omega), if_pos (by omega), e1, e2, if_pos (by omega), if_pos (by omega), if_pos (by omega), Int.toNat_natCast, Int.toNat_natCast]
    rw [show agateref06_Read_s.f (data.extract (8 * i) (8 * i + 8)) = some (readR (data.extract (8 * i) (8 * i + 8))) from rfl, Option.bind_some]
    rw [show agatelaw06_OfX.f (readR (data.extract (8 * i) (8 * i + 8))).1 (readR (data.extract (8 * i) (8 * i + 8))).2.1 = some (floatOfInt .f64 (readR (data.extract (8 * i) (8 * i + 8))).1, floatOfInt .f64 (readR (data.extract (8 * i) (8 * i + 8))).2.1) from rfl, Option.bind_some, e0, hx, if_pos (ceq_numR _), wrap64_id (by omega) (by omega)]
    exact ih k (i + 1) (by omega) (by omega) (by omega)
theorem tells_l1 (hd : data.size ≤ 4000) (he : e = 0 ∨ a = []) (hf : f = 0 ∨ b = []) (hg : g = 0 ∨ c = []) (hc : ∀ j (h : j < c.length), 8 * j + 8 ≤ data.size ∧ c[j] = numR (data.extract (8 * j) (8 * j + 8))) (hb : ∀ j (h : j < b.length), j < data.size ∧ b[j] = (bt data (j : Int) == 1)) (d : Nat) : ∀ (k i : Nat), b.length - i = d → i ≤ b.length → d + c.length + 1 < k →
    agatelaw07_TensorTells.l1 k a e b f c g b (b.length : Int) (i : Int) name kind dims data = some true := by
  induction d with
  | zero =>
    intro k i hdd hi hk
    obtain ⟨k, rfl⟩ : ∃ m, k = m + 1 := ⟨k - 1, by omega⟩
    simp only [agatelaw07_TensorTells.l1]
    rw [if_neg (by omega)]
    exact tells_l2 a e b f c g name kind dims data hd he hf hg hc c.length k 0 (by omega) (by omega) (by omega)
  | succ d ih =>
    intro k i hdd hi hk
    obtain ⟨k, rfl⟩ : ∃ m, k = m + 1 := ⟨k - 1, by omega⟩
    have hlt : i < b.length := by omega
    obtain ⟨h8, hx⟩ := hb i hlt
    have e0 : rdOf false b (i : Int) = b[i] := by simp [rdOf, hlt]
    simp only [agatelaw07_TensorTells.l1]
    rw [if_pos (by omega), if_pos (by omega), if_pos (by omega), if_pos (by omega), e0, hx, if_neg (by simp), wrap64_id (by omega) (by omega)]
    exact ih k (i + 1) (by omega) (by omega) (by omega)
theorem tells_round (c0 : Int) (y : List Int) (hy : y.length = 3) (j : Nat) (hj : j < 3) (k : Nat)
    (hx : (c0 = 0 ∧ (mk = rd [7, 9, 14] (j : Int) ∧ rd y (j : Int) = 0 ∨ mk ≠ rd [7, 9, 14] (j : Int) ∧ rd y (j : Int) = 13)) ∨ (c0 ≠ 0 ∧ rd y (j : Int) = c0)) :
    agatelaw07_TensorTells.l0 (k + 2) c0 a e b f c g y (y.length : Int) (j : Int) name kind dims data mn mk md mb = agatelaw07_TensorTells.l0 k c0 a e b f c g y (y.length : Int) ((j + 1 : Nat) : Int) name kind dims data mn mk md mb := by
  have hfin : agatelaw07_TensorTells.j4 (k + 1) c0 a e b f c g y (y.length : Int) (j : Int) false name kind dims data mn mk md mb = agatelaw07_TensorTells.l0 k c0 a e b f c g y (y.length : Int) ((j + 1 : Nat) : Int) name kind dims data mn mk md mb := by
    simp only [agatelaw07_TensorTells.j4]
    rw [if_neg (by decide), wrap64_id (by omega) (by omega)]
    rfl
  rw [show k + 2 = (k + 1) + 1 from rfl]
  simp only [agatelaw07_TensorTells.l0]
  rw [if_pos (by omega), if_pos (by omega), if_pos (by omega), Option.bind_some, if_pos (by show (j : Int) < 3; omega)]
  rcases hx with ⟨h0, ⟨hk, hr⟩ | ⟨hk, hr⟩⟩ | ⟨h0, hr⟩
  · rw [if_pos h0, if_pos hk, if_pos hr, if_pos hk]; exact hfin
  · rw [if_pos h0, if_neg hk, if_neg hk, hr]; exact hfin
  · rw [if_neg h0, if_pos hr]; exact hfin
theorem tells_l0_end (c0 : Int) (y : List Int) (hy : y.length = 3) (k : Nat) (hd : data.size ≤ 4000) (hmb : mb = data)
    (ha : e = 0 → a = (elemsOf data 8).map wholeR) (hb : f = 0 → b.length = data.size) (hc : g = 0 → 8 * c.length = data.size) :
    agatelaw07_TensorTells.l0 (k + 2) c0 a e b f c g y (y.length : Int) (3 : Int) name kind dims data mn mk md mb = agatelaw07_TensorTells.l1 k a e b f c g b (b.length : Int) 0 name kind dims data := by
  have hfin : agatelaw07_TensorTells.j5 (k + 1) a e b f c g false name kind dims data = agatelaw07_TensorTells.l1 k a e b f c g b (b.length : Int) 0 name kind dims data := by
    simp only [agatelaw07_TensorTells.j5]
    rw [if_neg (by decide)]
  rw [show k + 2 = (k + 1) + 1 from rfl]
  simp only [agatelaw07_TensorTells.l0]
  rw [if_neg (by omega)]
  have h1 : (if g = 0 then (agatelaw07_TensorTells.j5 (k + 1) a e b f c g ((wrap64 (8 * (c.length : Int))) != (data.size : Int)) name kind dims data) else (agatelaw07_TensorTells.j5 (k + 1) a e b f c g false name kind dims data)) = agatelaw07_TensorTells.j5 (k + 1) a e b f c g false name kind dims data := by
    by_cases h : g = 0
    · have := hc h
      rw [if_pos h, wrap64_id (by omega) (by omega), show (8 * (c.length : Int)) = (data.size : Int) by omega, bne_self_eq_false]
    · rw [if_neg h]
  rw [h1]
  have h2 : (if f = 0 then (if (b.length : Int) = (data.size : Int) then agatelaw07_TensorTells.j5 (k + 1) a e b f c g false name kind dims data else none) else agatelaw07_TensorTells.j5 (k + 1) a e b f c g false name kind dims data) = agatelaw07_TensorTells.j5 (k + 1) a e b f c g false name kind dims data := by
    by_cases h : f = 0
    · rw [if_pos h, if_pos (by rw [hb h])]
    · rw [if_neg h]
  rw [h2]
  by_cases h : e = 0
  · rw [if_pos h, hmb, show agateref07_Ints_s.f mn mk md data = some ((elemsOf data 8).map wholeR) from if_pos (by omega), Option.bind_some, ha h]
    have hl : ((elemsOf data 8).map wholeR).length < 9223372036854775807 := by rw [List.length_map, elemsOf_length]; omega
    rw [show agatelaw03_Ints_s.f ((elemsOf data 8).map wholeR) ((elemsOf data 8).map wholeR) = some (decide ((elemsOf data 8).map wholeR = (elemsOf data 8).map wholeR)) from if_pos hl, Option.bind_some, if_pos (decide_eq_true rfl), ← ha h]
    exact hfin
  · rw [if_neg h]; exact hfin
end
theorem elem_any (name : ByteArray) (kind : Int) (dims : List Int) (data : ByteArray) (i : Int) (q : Nat) (hd : data.size ≤ 4000) (hq : sizeK kind = (q : Int)) :
    tensor_Tensor_Elem.f name kind dims data i = some (if 0 < q ∧ 0 ≤ i ∧ i < ((data.size / q : Nat) : Int) then data.extract (i.toNat * q) (i.toNat * q + q) else ⟨#[]⟩) := by
  by_cases hq0 : 0 < q
  case neg =>
    rw [if_neg (fun h => hq0 h.1)]
    unfold tensor_Tensor_Elem.f
    rw [show kind_Kind_Size.f kind = some (sizeK kind) from rfl, Option.bind_some, if_pos (by omega)]
  by_cases hi : 0 ≤ i
  case neg =>
    rw [if_neg (fun h => hi h.2.1)]
    unfold tensor_Tensor_Elem.f
    rw [show kind_Kind_Size.f kind = some (sizeK kind) from rfl, Option.bind_some, if_neg (by omega), if_pos (by omega)]
  obtain ⟨n, rfl⟩ := Int.eq_ofNat_of_zero_le hi
  obtain ⟨m, hm⟩ : ∃ m, m = data.size / q := ⟨_, rfl⟩
  have hml : m ≤ data.size := by rw [hm]; exact Nat.div_le_self _ _
  by_cases hn : n < m
  · have h2 : (n + 1) * q ≤ data.size := (Nat.le_div_iff_mul_le hq0).1 (by omega)
    rw [if_pos ⟨hq0, hi, by omega⟩, Int.toNat_natCast]
    exact elem_at name kind dims data n q hq hq0 (by omega) h2
  · rw [if_neg (fun h => hn (by omega))]
    unfold tensor_Tensor_Elem.f
    have e1 : wrap64 ((data.size : Int) / (q : Int)) = (m : Int) := by
      rw [show ((data.size : Int) / (q : Int)) = (m : Int) by rw [hm]; rfl]
      exact wrap64_id (by omega) (by omega)
    rw [show kind_Kind_Size.f kind = some (sizeK kind) from rfl, Option.bind_some, hq, if_neg (by omega), if_neg (by omega), e1, if_pos (by omega)]
theorem same_f (n0 : ByteArray) (k0 : Int) (d0 : List Int) (b0 : ByteArray) (n1 : ByteArray) (k1 : Int) (d1 : List Int) (b1 : ByteArray) (h : d0.length ≤ 20) :
    tensor_Tensor_Same.f n0 k0 d0 b0 n1 k1 d1 b1 = some (sameR n0 k0 d0 b0 n1 k1 d1 b1) := by
  unfold tensor_Tensor_Same.f sameR
  by_cases h0 : n0 = n1
  case neg => rw [if_neg (fun e => h0 (toList_inj.1 e)), decide_eq_false (fun e => h0 e.1)]
  rw [if_pos (by rw [h0])]
  by_cases h1 : k0 = k1
  case neg => rw [if_neg h1, decide_eq_false (fun e => h1 e.2.1)]
  rw [if_pos h1, show slices_Equal_int64_int64_s.f d0 d1 = some (decide (d0 = d1)) from if_pos (by omega), Option.bind_some]
  by_cases h2 : d0 = d1
  case neg => rw [if_neg (by simpa using h2), decide_eq_false (fun e => h2 e.2.2.1)]
  rw [if_pos (decide_eq_true h2)]
  congr 1
  by_cases h3 : b0 = b1
  · rw [decide_eq_true (show n0 = n1 ∧ k0 = k1 ∧ d0 = d1 ∧ b0 = b1 from ⟨h0, h1, h2, h3⟩), h3]; simp
  · rw [decide_eq_false (fun e => h3 e.2.2.2)]
    exact beq_eq_false_iff_ne.2 (fun e => h3 (toList_inj.1 e))
theorem each_cases {β : Type} (g : ByteArray → β) (c kind k1 : Int) (data : ByteArray) :
    ((eachR g c kind k1 data).2 = 0 ∨ (eachR g c kind k1 data).1 = []) ∧ ((c = 0 ∧ (kind = k1 ∧ (eachR g c kind k1 data).2 = 0 ∨ kind ≠ k1 ∧ (eachR g c kind k1 data).2 = 13)) ∨ (c ≠ 0 ∧ (eachR g c kind k1 data).2 = c)) ∧ ((eachR g c kind k1 data).2 = 0 → c = 0 ∧ kind = k1 ∧ (eachR g c kind k1 data).1 = (elemsOf data (sizeK k1).toNat).map g) := by
  unfold eachR
  by_cases hc : c = 0
  · rw [if_pos hc]
    by_cases hk : kind = k1
    · rw [if_pos hk]; exact ⟨.inl rfl, .inl ⟨hc, .inl ⟨hk, rfl⟩⟩, fun _ => ⟨hc, hk, rfl⟩⟩
    · rw [if_neg hk]; exact ⟨.inr rfl, .inl ⟨hc, .inr ⟨hk, rfl⟩⟩, fun h => absurd (show (13 : Int) = 0 from h) (by decide)⟩
  · rw [if_neg hc]; exact ⟨.inr rfl, .inr ⟨hc, rfl⟩, fun h => absurd h hc⟩
theorem TensorTells : agatelaw07_TensorTells.Pure := by
  intro x0 x1 x2 w0 w1 w2
  obtain ⟨name, kind, dims, data⟩ := x0
  obtain ⟨name', kind', dims', data'⟩ := x1
  show ∃ k, agatelaw07_TensorTells.f k name kind dims data name' kind' dims' data' x2 = some true
  have hname : name.size ≤ 140737488351232 := w0.1
  have early : ∀ k, agatelaw07_TensorTells.j0 (k + 1) x2 true name kind dims data name' kind' dims' data' = some true := by
    intro k
    simp only [agatelaw07_TensorTells.j0]
    rfl
  refine ⟨20000, ?_⟩
  unfold agatelaw07_TensorTells.f
  by_cases h1 : (data.size : Int) > 4000
  · rw [if_pos h1]; exact early 19999
  rw [if_neg h1]
  by_cases h2 : (data'.size : Int) > 4000
  · rw [if_pos h2]; exact early 19999
  rw [if_neg h2]
  by_cases h3 : (dims.length : Int) > 20
  · rw [if_pos h3]; exact early 19999
  rw [if_neg h3]
  by_cases h4 : (dims'.length : Int) > 20
  · rw [if_pos h4]; exact early 19999
  rw [if_neg h4]
  by_cases h5 : (name.size : Int) > 200
  · rw [decide_eq_true h5]; exact early 19999
  rw [decide_eq_false h5, show (20000 : Nat) = 19999 + 1 from rfl]
  simp only [agatelaw07_TensorTells.j0]
  rw [if_neg (by decide)]
  obtain ⟨q, hq⟩ := Int.eq_ofNat_of_zero_le (show 0 ≤ sizeK kind by rcases sizeK_cases kind with h | h | h | h <;> omega)
  have hq8 : q ≤ 8 := by rcases sizeK_cases kind with h | h | h | h <;> omega
  obtain ⟨c0, hc0⟩ : ∃ c0, c0 = chkR name kind dims data := ⟨_, rfl⟩
  have hd4 : data.size ≤ 4000 := by omega
  have E1 : agateref07_Check_s.f name kind dims data = some c0 := by rw [hc0]; exact if_pos ⟨hname, by omega⟩
  have E2 : tensor_Tensor_Check_s.f name kind dims data = some c0 := by rw [hc0]; exact if_pos ⟨hname, by omega⟩
  have E3 := same_f name kind dims data name' kind' dims' data' (by omega)
  have E4 : agateref07_Same_s.f name kind dims data name' kind' dims' data' = some (sameR name kind dims data name' kind' dims' data') := if_pos (by omega)
  have E5 : tensor_Name_s.f name = some (nameR name) := if_pos hname
  have E6 : agateref07_Name_s.f name = some (nameR name) := if_pos hname
  have E7 : agateref04_Size_s.f kind = some (q : Int) := by rw [← hq]; rfl
  rw [show agatelaw07_Of.f name kind dims data = some (name, kind, data) from rfl, Option.bind_some, show agatelaw07_Of.f name' kind' dims' data' = some (name', kind', data') from rfl, Option.bind_some]
  rw [E1, Option.bind_some, E2, Option.bind_some, if_pos rfl, E3, Option.bind_some, E4, Option.bind_some, bne_self_eq_false, if_neg (by decide), E5, Option.bind_some, E6, Option.bind_some, bne_self_eq_false, if_neg (by decide), E7, Option.bind_some]
  have hE := elem_any name kind dims data x2 q hd4 hq
  have hrest : ∀ k, 9000 < k → ∀ want : ByteArray, tensor_Tensor_Elem.f name kind dims data x2 = some want → agatelaw07_TensorTells.j2 k x2 c0 want name kind dims data name kind dims data = some true := by
    intro k hk want hw
    obtain ⟨k, rfl⟩ : ∃ m, k = m + 9 := ⟨k - 9, by omega⟩
    have F1 : tensor_Tensor_Ints.f name kind dims data = some (eachR wholeR c0 kind 7 data) := by
      unfold tensor_Tensor_Ints.f
      rw [show tensor_each_int64_s.f name kind dims data 7 = some (eachR wholeR c0 kind 7 data) by rw [hc0]; exact if_pos ⟨rfl, hname, by omega⟩, Option.bind_some]
    have F2 : tensor_Tensor_Flags.f name kind dims data = some (eachR flagR c0 kind 9 data) := by
      unfold tensor_Tensor_Flags.f
      rw [show tensor_each_bool_s.f name kind dims data 9 = some (eachR flagR c0 kind 9 data) by rw [hc0]; exact if_pos ⟨rfl, hname, by omega⟩, Option.bind_some]
    have F3 : tensor_Tensor_Nums.f name kind dims data = some (eachR numR c0 kind 14 data) := by
      unfold tensor_Tensor_Nums.f
      rw [show tensor_each_complex128_s.f name kind dims data 14 = some (eachR numR c0 kind 14 data) by rw [hc0]; exact if_pos ⟨rfl, hname, by omega⟩, Option.bind_some]
    rw [show k + 9 = (k + 8) + 1 from rfl]
    simp only [agatelaw07_TensorTells.j2]
    rw [hw, Option.bind_some, if_pos rfl, F1, Option.bind_some, F2, Option.bind_some, F3, Option.bind_some, Option.bind_some]
    obtain ⟨a1, a2, a3⟩ := each_cases wholeR c0 kind 7 data
    obtain ⟨b1, b2, b3⟩ := each_cases flagR c0 kind 9 data
    obtain ⟨n1, n2, n3⟩ := each_cases numR c0 kind 14 data
    generalize eachR wholeR c0 kind 7 data = A at a1 a2 a3 ⊢
    generalize eachR flagR c0 kind 9 data = B at b1 b2 b3 ⊢
    generalize eachR numR c0 kind 14 data = C at n1 n2 n3 ⊢
    obtain ⟨a, e⟩ := A
    obtain ⟨b, f⟩ := B
    obtain ⟨c, g⟩ := C
    have s0 := tells_round a e b f c g name kind dims data name kind dims data c0 [e, f, g] rfl 0 (by decide) (k + 6) a2
    have s1 := tells_round a e b f c g name kind dims data name kind dims data c0 [e, f, g] rfl 1 (by decide) (k + 4) b2
    have s2 := tells_round a e b f c g name kind dims data name kind dims data c0 [e, f, g] rfl 2 (by decide) (k + 2) n2
    have hbl : f = 0 → b.length = data.size := fun h => by
      obtain ⟨_, _, hb⟩ := b3 h
      have hb : b = (elemsOf data 1).map flagR := hb
      rw [hb, List.length_map, elemsOf_length, Nat.div_one]
    have hcl : g = 0 → 8 * c.length = data.size := fun h => by
      obtain ⟨hz, hk14, hb⟩ := n3 h
      have hb : c = (elemsOf data 8).map numR := hb
      obtain ⟨n, q', h1, h2, h3, h4, h5, h6⟩ := chkR_ok (hc0.symm.trans hz)
      obtain rfl : q' = 8 := by rw [hk14] at h1; have : sizeK 14 = 8 := rfl; omega
      rw [hb, List.length_map, elemsOf_length, h6, h5, Nat.mul_comm]
    have s3 := tells_l0_end a e b f c g name kind dims data name kind dims data c0 [e, f, g] rfl k hd4 rfl (fun h => (a3 h).2.2) hbl hcl
    refine (s0.trans (s1.trans (s2.trans (s3.trans ?_))))
    have hB : ∀ j (h : j < b.length), j < data.size ∧ b[j] = (bt data (j : Int) == 1) := by
      intro j hj
      rcases b1 with h | h
      · obtain ⟨_, _, hb⟩ := b3 h
        have hb : b = (elemsOf data 1).map flagR := hb
        subst hb
        have hjl : j < data.size := by rw [List.length_map, elemsOf_length, Nat.div_one] at hj; exact hj
        refine ⟨hjl, ?_⟩
        rw [List.getElem_map, elemsOf_get data 1 j (by rw [Nat.div_one]; exact hjl)]
        unfold flagR
        have := bt_extract data (j * 1) (j * 1 + 1) 0 (by omega) (by omega)
        rw [show ((0 : Nat) : Int) = 0 from rfl] at this
        rw [this, Nat.mul_one]; rfl
      · have h : b = [] := h
        rw [h] at hj; exact absurd hj (Nat.not_lt_zero _)
    have hC : ∀ j (h : j < c.length), 8 * j + 8 ≤ data.size ∧ c[j] = numR (data.extract (8 * j) (8 * j + 8)) := by
      intro j hj
      rcases n1 with h | h
      · have hl := hcl h
        obtain ⟨_, _, hb⟩ := n3 h
        have hb : c = (elemsOf data 8).map numR := hb
        subst hb
        have hjl : j < data.size / 8 := by rw [List.length_map, elemsOf_length] at hj; exact hj
        refine ⟨by omega, ?_⟩
        rw [List.getElem_map, elemsOf_get data 8 j hjl, Nat.mul_comm]
      · have h : c = [] := h
        rw [h] at hj; exact absurd hj (Nat.not_lt_zero _)
    have hbb : b.length ≤ data.size := by
      rcases b1 with h | h
      · exact Nat.le_of_eq (hbl h)
      · have h : b = [] := h
        rw [h]; exact Nat.zero_le _
    have hcc : c.length ≤ data.size := by
      rcases n1 with h | h
      · have := hcl h; omega
      · have h : c = [] := h
        rw [h]; exact Nat.zero_le _
    exact tells_l1 a e b f c g name kind dims data hd4 a1 b1 n1 hC hB b.length k 0 (by omega) (by omega) (by omega)
  clear hc0 E1 E2 E3 E4 E5 E6 E7
  by_cases hq0 : 0 < q
  case neg =>
    rw [if_neg (by omega)]
    rw [show (19999 : Nat) = 19998 + 1 from rfl]
    simp only [agatelaw07_TensorTells.j1]
    rw [if_neg (by decide)]
    rw [if_neg (fun h => hq0 h.1)] at hE
    exact hrest 19998 (by decide) _ hE
  rw [if_pos (by omega)]
  by_cases hi : 0 ≤ x2
  case neg =>
    rw [if_neg (by omega)]
    rw [show (19999 : Nat) = 19998 + 1 from rfl]
    simp only [agatelaw07_TensorTells.j1]
    rw [if_neg (by decide)]
    rw [if_neg (fun h => hi h.2.1)] at hE
    exact hrest 19998 (by decide) _ hE
  rw [if_pos hi, if_neg (by omega)]
  obtain ⟨n, rfl⟩ := Int.eq_ofNat_of_zero_le hi
  obtain ⟨m, hm⟩ : ∃ m, m = data.size / q := ⟨_, rfl⟩
  have hml : m ≤ data.size := by rw [hm]; exact Nat.div_le_self _ _
  have e1 : wrap64 ((data.size : Int) / (q : Int)) = (m : Int) := by
    rw [show ((data.size : Int) / (q : Int)) = (m : Int) by rw [hm]; rfl]
    exact wrap64_id (by omega) (by omega)
  rw [e1, show (19999 : Nat) = 19998 + 1 from rfl]
  clear e1
  simp only [agatelaw07_TensorTells.j1]
  by_cases hn : n < m
  · rw [if_pos ⟨hq0, hi, by rw [← hm]; exact Int.ofNat_lt.2 hn⟩, Int.toNat_natCast] at hE
    have h2 : (n + 1) * q ≤ data.size := (Nat.le_div_iff_mul_le hq0).1 (by rw [← hm]; exact hn)
    have hs : (n + 1) * q = n * q + q := Nat.succ_mul n q
    obtain ⟨e2, e3⟩ : wrap64 ((n : Int) * (q : Int)) = ((n * q : Nat) : Int) ∧ wrap64 (((n * q : Nat) : Int) + (q : Int)) = ((n * q + q : Nat) : Int) := by
      refine ⟨?_, ?_⟩
      · rw [show ((n : Int) * (q : Int)) = ((n * q : Nat) : Int) by simp]
        exact wrap64_id (by omega) (by omega)
      · rw [show (((n * q : Nat) : Int) + (q : Int)) = ((n * q + q : Nat) : Int) by omega]
        exact wrap64_id (by omega) (by omega)
    rw [if_pos (decide_eq_true (Int.ofNat_lt.2 hn)), e2, e3]
    clear e2 e3
    rw [if_pos (by omega), if_pos (by omega), if_pos (by omega), Int.toNat_natCast, Int.toNat_natCast]
    exact hrest 19998 (by decide) _ hE
  · rw [if_neg (fun h => hn (by have h3 := h.2.2; rw [← hm] at h3; exact Int.ofNat_lt.1 h3))] at hE
    rw [if_neg (by rw [decide_eq_false (fun h => hn (Int.ofNat_lt.1 h))]; decide)]
    exact hrest 19998 (by decide) _ hE
end Go.Proofs.Ytpojamikfcmnoaa.Pure
namespace Go.Proofs.Ytpojamikfcmnoaa.tensorTells
open Go.ChangeShapes Go.WideShapes Go.ChangeAt Go.RowKit Go.Proofs.Ytpojamikfcmnoaa.X Go.Proofs.YtpojamikfcmnoaaW.PrintWords
set_option linter.unusedVariables false
theorem own : ownKnob Try.prog.godebug = none := by kernel_rfl
theorem laidOut : laidOutB Try.prog = true := by kernel_rfl
set_option maxRecDepth 100000 in
theorem lifted (os : Os) (started : os.Started) (H : Type) (enc : TypeId × Value → H) :
    ReturnsInHanded {} Try.checked os 9 .any (Rows.tensorTellsSpec.pre6 enc Try.prog Try.f9 Rows.tensorTellsRow.domain false) (Rows.tensorTellsSpec.post enc Try.prog Try.f9 false true false false) := by
  refine returnsInHanded_of_change_sized (C := Try.checked) own started (by kernel_rfl) Try.func9
    (ChangeSpec.witness6 (enc := enc) (C := Try.checked) false ⟨#[], #[.agg #[.string ByteArray.empty, .int .i64 0, .slice none 0 0, .string ByteArray.empty], .agg #[.string ByteArray.empty, .int .i64 0, .slice none 0 0, .string ByteArray.empty], .int .i64 0], []⟩ 8 (by kernel_rfl) (by kernel_rfl) (by kernel_rfl) (by kernel_rfl)) ?_
  intro W base args ds gs before hval0 hW hcnd hsz0 _
  have hsz : (DataW.weightsEach Try.prog (Try.f9.params.toList ++ Rows.tensorTellsSpec.plain.varTypes Try.prog) (ds ++ gs)).all (· ≤ reachBytes) = true := hsz0
  have hval : ∀ (j : Nat) t v, Try.f9.params[j]? = some t → args[j]? = some v → Value.okWide Try.prog W .any base t v := hval0
  have hW' := hW
  obtain ⟨p, q, hA0, hV, rfl, hfz, hnd⟩ := hW
  have hA : DataW.TrodAll enc Try.prog W 0 (fun _ => true) true Try.f9.params.toList args.toList ds p := hA0
  rw [Try.params9] at hA hval hsz
  obtain ⟨v0, vs0, d0, ds0, p0, q0, hargs, rfl, rfl, h0, r0⟩ := trodAll_cons hA
  obtain ⟨v1, vs1, d1, ds1, p1, q1, rfl, rfl, rfl, h1, r1⟩ := trodAll_cons r0
  obtain ⟨v2, vs2, d2, ds2, p2, q2, rfl, rfl, rfl, h2, r2⟩ := trodAll_cons r1
  obtain ⟨rfl, rfl, rfl⟩ := trodAll_nil r2
  obtain rfl : args = #[v0, v1, v2] := by cases args; simp_all
  obtain ⟨rfl, rfl⟩ := trodVars_none hV
  have k0 := h0
  have lt0 : ∀ x ∈ p0, x.block < W.heap.size := by obtain ⟨m, hm⟩ := k0; exact DataW.trod_lt m _ _ _ hm
  obtain ⟨fuel0, hf0⟩ := h0
  obtain ⟨x0, K0, wf0⟩ := ((op62 enc W) : Opens enc Try.prog W 62 k62 wf62).go fuel0 _ _ hf0 (fun m hm => by simpa using List.all_eq_true.1 hsz m (DataW.weights_mem_each (j := 0) (t := 62) rfl rfl m hm))
  obtain ⟨cs0, rfl, _⟩ := okWide_struct Try.underlying62 (hval 0 62 v0 rfl rfl)
  have K0' : k62.K W x0 cs0.toList := K0
  obtain ⟨A0_2, c0_2, e0, hc0_2, hr0_2⟩ := k62_open K0'
  obtain rfl : cs0 = #[.string x0.f0, .int .i64 x0.f1, .slice A0_2 x0.f2.length c0_2, .string x0.f3] := by cases cs0; simpa using e0
  have k1 := h1
  have lt1 : ∀ x ∈ p1, x.block < W.heap.size := by obtain ⟨m, hm⟩ := k1; exact DataW.trod_lt m _ _ _ hm
  obtain ⟨fuel1, hf1⟩ := h1
  obtain ⟨x1, K1, wf1⟩ := ((op62 enc W) : Opens enc Try.prog W 62 k62 wf62).go fuel1 _ _ hf1 (fun m hm => by simpa using List.all_eq_true.1 hsz m (DataW.weights_mem_each (j := 1) (t := 62) rfl rfl m hm))
  obtain ⟨cs1, rfl, _⟩ := okWide_struct Try.underlying62 (hval 1 62 v1 rfl rfl)
  have K1' : k62.K W x1 cs1.toList := K1
  obtain ⟨A1_2, c1_2, e1, hc1_2, hr1_2⟩ := k62_open K1'
  obtain rfl : cs1 = #[.string x1.f0, .int .i64 x1.f1, .slice A1_2 x1.f2.length c1_2, .string x1.f3] := by cases cs1; simpa using e1
  have k2 := h2
  have lt2 : ∀ x ∈ p2, x.block < W.heap.size := by obtain ⟨m, hm⟩ := k2; exact DataW.trod_lt m _ _ _ hm
  obtain ⟨fuel2, hf2⟩ := h2
  obtain ⟨x2, K2, wf2⟩ := ((Opens.int Try.underlying3 (by kernel_rfl)) : Opens enc Try.prog W 3 (Kd.int .i64) (fun a => (Lit.int .i64 a).wf = true)).go fuel2 _ _ hf2 (fun m hm => by simpa using List.all_eq_true.1 hsz m (DataW.weights_mem_each (j := 2) (t := 3) rfl rfl m hm))
  obtain ⟨b2, rfl⟩ := okWide_int Try.underlying3 (hval 2 3 v2 rfl rfl)
  obtain rfl : b2 = x2 := by have e_ := K2; simpa [Kd.int, Kd.bool, Kd.string, Kd.scalar, Value.cells] using e_
  clear hA0 hval0 hsz0 hsz
  obtain ⟨k, hp⟩ := Pure.TensorTells x0 x1 b2 wf0 wf1 wf2
  refine (agatelaw07_TensorTells.calls k (x0.f0) (x0.f1) A0_2 c0_2 (x0.f2) (x0.f3) (x1.f0) (x1.f1) A1_2 c1_2 (x1.f2) (x1.f3) b2 true W hr0_2 hc0_2 hr1_2 hc1_2 hp).mono fun e W' ⟨he, bel0⟩ => ?_
  have bel : Below W.heap.size W W' := bel0
  subst he
  exact ⟨_, rfl, _, _, _, [], _, [], hW', trodAll_mk1 (shut_bool Try.underlying4 _), (trodAll_cons_mk (Below.trod laidOut (by kernel_rfl) (of_decide_eq_true (by kernel_rfl)) k0 bel lt0) (trodAll_cons_mk (Below.trod laidOut (by kernel_rfl) (of_decide_eq_true (by kernel_rfl)) k1 bel lt1) (trodAll_cons_mk (Below.trod laidOut (by kernel_rfl) (of_decide_eq_true (by kernel_rfl)) k2 bel lt2) trodAll_mk0))), rfl, bel.frame _, fun h => by cases h⟩
theorem over : Rows.tensorTellsRow.holds Try.pinned (OpenSpec.ofChange Rows.tensorTellsSpec) :=
  OpenClaim.holds_of_wide 9 Try.f9 rfl rfl rfl rfl rfl rfl rfl ⟨rfl, rfl, rfl, rfl, rfl⟩ rfl rfl rfl rfl rfl (by kernel_rfl) Try.func9 (by kernel_rfl)
    (of_decide_eq_true (by kernel_rfl)) (by unfold Func.isWrapper; first | (rw [if_pos (by decide +kernel)]; kernel_rfl) | (rw [if_neg (by decide +kernel)]; exact ⟨rfl, rfl⟩))
    (fun os started H enc _ => lifted os started H enc)
theorem proved : Rows.TensorTellsSaid := over
#print axioms proved
end Go.Proofs.Ytpojamikfcmnoaa.tensorTells
namespace Go.Proofs.Ytpojamikfcmnoaa
theorem tensorTells_holds : Rows.TensorTellsSaid := tensorTells.proved
end Go.Proofs.Ytpojamikfcmnoaa
