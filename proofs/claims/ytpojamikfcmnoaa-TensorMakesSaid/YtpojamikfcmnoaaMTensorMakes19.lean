import Derived.Test.YtpojamikfcmnoaaMTensorMakes2
import Derived.Test.YtpojamikfcmnoaaMTensorMakes4
import Derived.Test.YtpojamikfcmnoaaMTensorMakes6
import Derived.Test.YtpojamikfcmnoaaMTensorMakes3
import Derived.Test.YtpojamikfcmnoaaMTensorMakes5
import Derived.WalkLawsBesides
import Derived.Test.YtpojamikfcmnoaaMTensorMakes12
import Derived.Test.YtpojamikfcmnoaaMTensorMakes18
import Derived.Test.YtpojamikfcmnoaaMTensorMakes13
import Derived.Test.YtpojamikfcmnoaaMTensorMakes14
import Derived.Test.YtpojamikfcmnoaaMTensorMakes15
import Derived.Test.YtpojamikfcmnoaaMTensorMakes16
import Derived.Test.YtpojamikfcmnoaaMTensorMakes17
import Derived.Test.YtpojamikfcmnoaaMTensorMakes8
import Derived.Test.YtpojamikfcmnoaaMTensorMakes7
import Derived.Test.YtpojamikfcmnoaaMTensorMakes11
import Derived.Test.YtpojamikfcmnoaaRows
import Derived.WalkKit
import Derived.ProofKit
import Derived.OpenShut
import Derived.ShutString
import Derived.ChangeOld
import Derived.Below
import Derived.SizedLaws
import Derived.Carry
namespace Go.Proofs.Ytpojamikfcmnoaa.X
open Go.RowKit Go.Proofs.YtpojamikfcmnoaaW.PrintWords Go.Proofs.YtpojamikfcmnoaaW.PrintLast Go.Proofs.YtpojamikfcmnoaaW.PrintMore
attribute [local go_sem] max2_int min2_int max_two min_two max_three min_three max_four min_four
set_option linter.unusedVariables false
set_option linter.unusedSimpArgs false
theorem laidV_bytes (v : Nat) : laidV v = ⟨#[UInt8.ofNat (v % 256), UInt8.ofNat (v / 256 % 256), UInt8.ofNat (v / 65536 % 256), UInt8.ofNat (v / 16777216 % 256)]⟩ := by
  unfold laidV strOfNums
  have e0 : ((v : Int) % 256).toNat = v % 256 := by omega
  have e1 : ((v : Int) / 256 % 256).toNat = v / 256 % 256 := by omega
  have e2 : ((v : Int) / 65536 % 256).toNat = v / 65536 % 256 := by omega
  have e3 : ((v : Int) / 16777216 % 256).toNat = v / 16777216 % 256 := by omega
  simp only [List.map_cons, List.map_nil, e0, e1, e2, e3]
theorem bytes_append (a b : Array UInt8) : (⟨a⟩ : ByteArray) ++ (⟨b⟩ : ByteArray) = ⟨a ++ b⟩ := by
  apply ByteArray.ext
  rw [ByteArray.data_append]
theorem wd_four (b0 b1 b2 b3 : UInt8) : wd ⟨#[b0, b1, b2, b3]⟩ = b0.toNat + b1.toNat * 256 + b2.toNat * 65536 + b3.toNat * 16777216 := by
  unfold wd
  rw [show bt ⟨#[b0, b1, b2, b3]⟩ 0 = (b0.toNat : Int) from rfl, show bt ⟨#[b0, b1, b2, b3]⟩ 1 = (b1.toNat : Int) from rfl, show bt ⟨#[b0, b1, b2, b3]⟩ 2 = (b2.toNat : Int) from rfl, show bt ⟨#[b0, b1, b2, b3]⟩ 3 = (b3.toNat : Int) from rfl]
  omega
theorem wd_eight (b0 b1 b2 b3 b4 b5 b6 b7 : UInt8) : wd ⟨#[b0, b1, b2, b3, b4, b5, b6, b7]⟩ = b0.toNat + b1.toNat * 256 + b2.toNat * 65536 + b3.toNat * 16777216 := by
  unfold wd
  rw [show bt ⟨#[b0, b1, b2, b3, b4, b5, b6, b7]⟩ 0 = (b0.toNat : Int) from rfl, show bt ⟨#[b0, b1, b2, b3, b4, b5, b6, b7]⟩ 1 = (b1.toNat : Int) from rfl, show bt ⟨#[b0, b1, b2, b3, b4, b5, b6, b7]⟩ 2 = (b2.toNat : Int) from rfl, show bt ⟨#[b0, b1, b2, b3, b4, b5, b6, b7]⟩ 3 = (b3.toNat : Int) from rfl]
  omega
theorem extract_eight (b0 b1 b2 b3 b4 b5 b6 b7 : UInt8) : (⟨#[b0, b1, b2, b3, b4, b5, b6, b7]⟩ : ByteArray).extract 4 8 = ⟨#[b4, b5, b6, b7]⟩ := by
  apply ByteArray.ext
  rw [ByteArray.data_extract]
  rfl
theorem wholeS_F32 (n : Int) (h : -1048576 ≤ n ∧ n ≤ 1048576) : wholeS (floatOfInt .f32 n) = (n, true) := by
  by_cases h0 : n = 0
  · subst h0
    rw [show floatOfInt .f32 0 = 0 by decide +kernel]
    unfold wholeS; rw [if_pos rfl]
  · have hk : n.natAbs ≠ 0 := by omega
    have hl : n.natAbs.log2 ≤ 20 := by
      have := (Nat.log2_lt hk).2 (show n.natAbs < 2 ^ 21 by omega); omega
    have hL := (Nat.log2_eq_iff hk).1 rfl
    rw [F32_word n h0 (by omega)]
    have u1 : n.natAbs * 2 ^ (23 - n.natAbs.log2) < 16777216 := by
      have h2 : n.natAbs * 2 ^ (23 - n.natAbs.log2) < 2 ^ (n.natAbs.log2 + 1) * 2 ^ (23 - n.natAbs.log2) := (Nat.mul_lt_mul_right (Nat.two_pow_pos _)).2 hL.2
      rw [← Nat.pow_add, show n.natAbs.log2 + 1 + (23 - n.natAbs.log2) = 24 by omega] at h2
      exact h2
    have u0 : 8388608 ≤ n.natAbs * 2 ^ (23 - n.natAbs.log2) := by
      have h2 : 2 ^ n.natAbs.log2 * 2 ^ (23 - n.natAbs.log2) ≤ n.natAbs * 2 ^ (23 - n.natAbs.log2) := Nat.mul_le_mul_right _ hL.1
      rw [← Nat.pow_add, show n.natAbs.log2 + (23 - n.natAbs.log2) = 23 by omega] at h2
      exact h2
    have hJ : 0 < 2 ^ (23 - n.natAbs.log2) := Nat.two_pow_pos _
    have m1 : n.natAbs * 2 ^ (23 - n.natAbs.log2) % 2 ^ (23 - n.natAbs.log2) = 0 := Nat.mul_mod_left _ _
    have m2 : n.natAbs * 2 ^ (23 - n.natAbs.log2) / 2 ^ (23 - n.natAbs.log2) = n.natAbs := Nat.mul_div_cancel _ hJ
    have hk1 : n.natAbs ≤ 1048576 := by omega
    have hsg := sgn_int n
    generalize hKK : n.natAbs * 2 ^ (23 - n.natAbs.log2) = K at *
    generalize hLL : n.natAbs.log2 = L at *
    have key : ∀ v : Nat, v % 8388608 + 8388608 = K → v / 8388608 % 256 = L + 127 → v ≠ 0 → decide (v ≥ 2147483648) = decide (n < 0) → wholeS v = (n, true) := by
      intro v e1 e2 e3 e4
      unfold wholeS
      rw [if_neg e3, e2, if_neg (by omega), e1, show 150 - (L + 127) = 23 - L by omega, if_pos m1, m2, e4, hsg, decide_eq_true hk1]
    by_cases hn : n < 0
    · rw [if_pos hn]
      exact key _ (by omega) (by omega) (by omega) (by rw [decide_eq_decide]; omega)
    · rw [if_neg hn]
      exact key _ (by omega) (by omega) (by omega) (by rw [decide_eq_decide]; omega)
theorem ofNat_lt (n : Nat) (h : n < 256) : (UInt8.ofNat n).toNat = n := by
  rw [UInt8.toNat_ofNat']; exact Nat.mod_eq_of_lt h
theorem readR_put (a b : Int) (h : mayR a b = true) : readR (laidV (floatOfInt .f32 a) ++ laidV (floatOfInt .f32 b)) = (a, b, 0) := by
  obtain ⟨ha, hb⟩ := mayR_of0 h
  have w1 := wholeS_F32 a ha
  have w2 := wholeS_F32 b hb
  have l1 := F32_lt a
  have l2 := F32_lt b
  generalize floatOfInt .f32 a = v at *
  generalize floatOfInt .f32 b = u at *
  have e : laidV v ++ laidV u = ⟨#[UInt8.ofNat (v % 256), UInt8.ofNat (v / 256 % 256), UInt8.ofNat (v / 65536 % 256), UInt8.ofNat (v / 16777216 % 256), UInt8.ofNat (u % 256), UInt8.ofNat (u / 256 % 256), UInt8.ofNat (u / 65536 % 256), UInt8.ofNat (u / 16777216 % 256)]⟩ := by
    rw [laidV_bytes, laidV_bytes, bytes_append]; rfl
  rw [e]
  have s8 : (⟨#[UInt8.ofNat (v % 256), UInt8.ofNat (v / 256 % 256), UInt8.ofNat (v / 65536 % 256), UInt8.ofNat (v / 16777216 % 256), UInt8.ofNat (u % 256), UInt8.ofNat (u / 256 % 256), UInt8.ofNat (u / 65536 % 256), UInt8.ofNat (u / 16777216 % 256)]⟩ : ByteArray).size = 8 := rfl
  unfold readR
  rw [s8, if_neg (by decide), if_neg (by decide), wd_eight, extract_eight, wd_four]
  rw [ofNat_lt _ (by omega), ofNat_lt _ (by omega), ofNat_lt _ (by omega), ofNat_lt _ (by omega), ofNat_lt _ (by omega), ofNat_lt _ (by omega), ofNat_lt _ (by omega), ofNat_lt _ (by omega)]
  rw [show v % 256 + v / 256 % 256 * 256 + v / 65536 % 256 * 65536 + v / 16777216 % 256 * 16777216 = v by omega, show u % 256 + u / 256 % 256 * 256 + u / 65536 % 256 * 65536 + u / 16777216 % 256 * 16777216 = u by omega, w1, w2]
  rfl
end Go.Proofs.Ytpojamikfcmnoaa.X
namespace Go.Proofs.Ytpojamikfcmnoaa.Pure
open Go.RowKit Go.Proofs.Ytpojamikfcmnoaa.X Go.Proofs.YtpojamikfcmnoaaW.PrintWords Go.Proofs.YtpojamikfcmnoaaW.PrintLast Go.Proofs.YtpojamikfcmnoaaW.PrintMore
set_option linter.unusedVariables false
set_option linter.unusedSimpArgs false
def catB : List ByteArray → ByteArray
  | [] => ⟨#[]⟩
  | b :: l => b ++ catB l
theorem catB_append (l m : List ByteArray) : catB (l ++ m) = catB l ++ catB m := by
  induction l with
  | nil => apply ByteArray.ext; simp [catB, ByteArray.data_append]
  | cons b l ih => rw [List.cons_append, catB, ih, catB, ByteArray.append_assoc]
theorem catB_one (b : ByteArray) : catB [b] = b := by apply ByteArray.ext; simp [catB, ByteArray.data_append]
theorem catOf_catB {α : Type} (g : α → Option ByteArray) (h : α → ByteArray) (l : List α) (hg : ∀ x ∈ l, g x = some (h x)) : catOf g l = some (catB (l.map h)) := by
  induction l with
  | nil => rfl
  | cons x l ih => rw [catOf, hg x (List.mem_cons_self ..), Option.bind_some, ih (fun y hy => hg y (List.mem_cons_of_mem _ hy)), Option.bind_some]; rfl
theorem catB_size (L : List ByteArray) (q : Nat) (h : ∀ b ∈ L, b.size = q) : (catB L).size = L.length * q := by
  induction L with
  | nil => rw [List.length_nil, Nat.zero_mul]; rfl
  | cons b l ih => rw [catB, ByteArray.size_append, h b (List.mem_cons_self ..), ih (fun y hy => h y (List.mem_cons_of_mem _ hy)), List.length_cons, Nat.succ_mul]; omega
theorem catB_extract (L : List ByteArray) (q : Nat) (h : ∀ b ∈ L, b.size = q) (i : Nat) (hi : i < L.length) : (catB L).extract (i * q) (i * q + q) = L[i] := by
  have hs : (catB (L.take i)).size = i * q := by
    rw [catB_size (L.take i) q (fun b hb => h b (List.mem_of_mem_take hb)), List.length_take]
    congr 1; omega
  have e : L = L.take i ++ (L[i] :: L.drop (i + 1)) := by rw [← List.drop_eq_getElem_cons hi, List.take_append_drop]
  have e2 : catB L = catB (L.take i) ++ (L[i] ++ catB (L.drop (i + 1))) := by
    conv => lhs; rw [e]
    rw [catB_append]; rfl
  apply ns_inj
  rw [ns_extract, e2, ns_append, ns_append]
  have l1 : (ns (catB (L.take i))).length = i * q := by rw [ns_length, hs]
  have l2 : (ns L[i]).length = q := by rw [ns_length]; exact h _ (List.getElem_mem _)
  rw [← l1, List.drop_left, l1, Nat.add_sub_cancel_left]
  conv => lhs; rw [← l2]
  exact List.take_left' rfl
theorem elems_cat (L : List ByteArray) (q : Nat) (hq : 0 < q) (h : ∀ b ∈ L, b.size = q) : elemsOf (catB L) q = L := by
  have hl : (elemsOf (catB L) q).length = L.length := by rw [elemsOf_length, catB_size L q h, Nat.mul_div_cancel _ hq]
  refine List.ext_getElem hl ?_
  intro i h1 h2
  rw [elemsOf_get _ _ _ (by rw [elemsOf_length] at h1; exact h1)]
  exact catB_extract L q h i h2
theorem chk_made (name : ByteArray) (kind : Int) (dims : List Int) (L : List ByteArray) (q : Nat) (hn : nameR name = true) (hq : sizeK kind = (q : Int)) (hq0 : 0 < q) (hL : ∀ b ∈ L, b.size = q) (hs : sizeS dims = ((L.length : Int), 0)) (hv : ∀ b ∈ L, tensor_Tensor_value.f name kind dims (catB L) b = some true) :
    chkR name kind dims (catB L) = 0 := by
  have hsz := catB_size L q hL
  unfold chkR
  rw [if_pos hn, if_neg (by omega), hs, if_pos rfl, hq, if_pos (by rw [hsz]; simp), if_pos]
  rw [List.all_eq_true]
  intro i hi
  have hi : i < L.length := by simpa using hi
  have hle : (i + 1) * q ≤ (catB L).size := by rw [hsz]; exact Nat.mul_le_mul_right q hi
  have h1 := okAt_value name kind dims (catB L) i q hq hq0 hle
  rw [catB_extract L q hL i hi, hv _ (List.getElem_mem _)] at h1
  exact (Option.some.inj h1).symm
theorem sizeS_one (n : Nat) (h : n ≤ 100) : sizeS [(n : Int)] = ((n : Int), 0) := by
  unfold sizeS
  rw [if_neg (by simp), if_neg (by simp)]
  rw [sizeL, if_neg (by omega)]
  by_cases h0 : (n : Int) = 0
  · rw [if_pos h0, sizeL, if_pos rfl, h0]
  · rw [if_neg h0, Int.one_mul, if_neg (by omega), sizeL, if_neg (by decide), if_neg (by omega)]
theorem sizeS_two (n : Nat) (h : n ≤ 100) : sizeS [1, (n : Int)] = ((n : Int), 0) := by
  unfold sizeS
  rw [if_neg (by simp), if_neg (by simp)]
  rw [sizeL, if_neg (by decide), if_neg (by decide), Int.one_mul, if_neg (by decide), sizeL, if_neg (by omega)]
  by_cases h0 : (n : Int) = 0
  · rw [if_pos h0, sizeL, if_pos rfl, h0]
  · rw [if_neg h0, Int.one_mul, if_neg (by omega), sizeL, if_neg (by decide), if_neg (by omega)]
def flagB (b : Bool) : ByteArray := if b = true then ⟨#[1]⟩ else ⟨#[0]⟩
def numB (x : S23) : ByteArray := laidV (floatOfInt .f32 x.f0) ++ laidV (floatOfInt .f32 x.f1)
def numF (x : S23) : Nat × Nat := (floatOfInt .f64 x.f0, floatOfInt .f64 x.f1)
theorem wholeR_laid8 (n : Int) (h : (Lit.int .i64 n).wf = true) : wholeR (laid8 n) = n := by
  have hr : -9223372036854775808 ≤ n ∧ n ≤ 9223372036854775807 := by simpa [Lit.wf, IntKind.min, IntKind.max, IntKind.bits, IntKind.signed] using h
  have h0 : 0 ≤ IntKind.u64.wrap n ∧ IntKind.u64.wrap n < 18446744073709551616 := by rw [u64_wrap]; omega
  obtain ⟨v, hv⟩ := Int.eq_ofNat_of_zero_le h0.1
  unfold wholeR
  rw [laid8_laidStr n v hv, ns_laidStr, lowS_laidS, Nat.mod_eq_of_lt (by omega), ← hv, u64_wrap]
  clear hv h0
  unfold wrap64
  omega
theorem flagged_f (b : Bool) : tensor_flagged.f b = some (flagB b) := by cases b <;> rfl
theorem flagB_size (b : Bool) : (flagB b).size = 1 := by cases b <;> rfl
theorem flagR_flagB (b : Bool) : flagR (flagB b) = b := by cases b <;> rfl
theorem numB_size (x : S23) : (numB x).size = 8 := by unfold numB; rw [ByteArray.size_append, laidV_size, laidV_size]
theorem numR_numB (x : S23) (h : mayR x.f0 x.f1 = true) : numR (numB x) = numF x := by
  unfold numR numF numB readF
  rw [readR_put _ _ h]
theorem number_f (x : S23) (h : mayR x.f0 x.f1 = true) : tensor_number.f (numF x) = some (numB x) := by
  obtain ⟨ha, hb⟩ := mayR_of0 h
  unfold tensor_number.f gauss_PutX.f
  have h1 := mayE_one x.f0 x.f1 (by omega) (by omega)
  rw [h] at h1
  have h2 : mayE [numF x] = true := h1
  have h3 : floatToFloatBits .f64 (numF x).1 .f32 = some (floatOfInt .f32 x.f0) := F32 x.f0 (by omega) (by omega)
  have h4 : floatToFloatBits .f64 (numF x).2 .f32 = some (floatOfInt .f32 x.f1) := F32 x.f1 (by omega) (by omega)
  rw [if_pos h2, h3, Option.bind_some, h4, Option.bind_some, Option.bind_some, if_pos rfl]
  rfl
theorem number_half : tensor_number.f (4602678819172646912, 0) = some (laid8 0) := by
  unfold tensor_number.f gauss_PutX.f
  rw [if_neg (by decide +kernel)]
  rfl
theorem laid8_zero : laid8 0 = laidV (floatOfInt .f32 0) ++ laidV (floatOfInt .f32 0) := by decide +kernel
theorem value_int (name : ByteArray) (dims : List Int) (data b : ByteArray) : tensor_Tensor_value.f name 7 dims data b = some true := by
  unfold tensor_Tensor_value.f; rw [if_neg (by decide), if_neg (by decide)]
theorem value_flag (name : ByteArray) (dims : List Int) (data : ByteArray) (b : Bool) : tensor_Tensor_value.f name 9 dims data (flagB b) = some true := by cases b <;> rfl
theorem value_num (name : ByteArray) (dims : List Int) (data : ByteArray) (x : S23) (h : mayR x.f0 x.f1 = true) : tensor_Tensor_value.f name 14 dims data (numB x) = some true := by
  unfold tensor_Tensor_value.f numB
  rw [if_neg (by decide), if_pos rfl, readR_put _ _ h]; rfl
theorem of_ints_f (name : ByteArray) (l : List Int) (hl : l.length ≤ 100) : tensor_OfInts.f name [(l.length : Int)] l = some (name, 7, [(l.length : Int)], catB (l.map laid8)) := by
  unfold tensor_OfInts.f tensor_of_int64.f
  have hs := catB_size (l.map laid8) 8 (by intro b hb; obtain ⟨x, _, rfl⟩ := List.mem_map.1 hb; exact laid8_size x)
  rw [List.length_map] at hs
  rw [if_pos (by simp), if_pos (by omega), catOf_catB tensor_laidX.f laid8 l (fun _ _ => rfl), Option.bind_some, if_pos (by rw [hs]; omega), Option.bind_some]
theorem of_flags_f (name : ByteArray) (l : List Bool) (hl : l.length ≤ 100) : tensor_OfFlags.f name [(l.length : Int)] l = some (name, 9, [(l.length : Int)], catB (l.map flagB)) := by
  unfold tensor_OfFlags.f tensor_of_bool.f
  have hs := catB_size (l.map flagB) 1 (by intro b hb; obtain ⟨x, _, rfl⟩ := List.mem_map.1 hb; exact flagB_size x)
  rw [List.length_map] at hs
  rw [if_pos (by simp), if_pos (by omega), catOf_catB tensor_flagged.f flagB l (fun x _ => flagged_f x), Option.bind_some, if_pos (by rw [hs]; omega), Option.bind_some]
theorem of_nums_f (name : ByteArray) (l : List (S23)) (hl : l.length ≤ 100) (hm : ∀ x ∈ l, mayR x.f0 x.f1 = true) : tensor_OfNums.f name [1, (l.length : Int)] (l.map numF) = some (name, 14, [1, (l.length : Int)], catB (l.map numB)) := by
  unfold tensor_OfNums.f tensor_of_c128.f
  have hs := catB_size (l.map numB) 8 (by intro b hb; obtain ⟨x, _, rfl⟩ := List.mem_map.1 hb; exact numB_size x)
  rw [List.length_map] at hs
  have hc : catOf tensor_number.f (l.map numF) = some (catB (l.map numB)) := by
    clear hl hs
    induction l with
    | nil => rfl
    | cons x l ih =>
      rw [List.map_cons, catOf, number_f x (hm x (List.mem_cons_self ..)), Option.bind_some, ih (fun y hy => hm y (List.mem_cons_of_mem _ hy)), Option.bind_some]; rfl
  rw [if_pos (by simp), if_pos (by rw [List.length_map]; omega), hc, Option.bind_some, if_pos (by rw [hs]; omega), Option.bind_some]
theorem ints_back (l : List Int) (hw : ∀ x ∈ l, (Lit.int .i64 x).wf = true) : eachR wholeR 0 7 7 (catB (l.map laid8)) = (l, 0) := by
  have hL : ∀ b ∈ l.map laid8, b.size = 8 := by intro b hb; obtain ⟨x, _, rfl⟩ := List.mem_map.1 hb; exact laid8_size x
  have h8 : (sizeK 7).toNat = 8 := rfl
  unfold eachR
  rw [if_pos rfl, if_pos rfl, h8, elems_cat (l.map laid8) 8 (by decide) hL, List.map_map]
  have : l.map (wholeR ∘ laid8) = l.map id := List.map_congr_left (by intro x hx; rw [Function.comp_apply, id_eq]; exact wholeR_laid8 x (hw x hx))
  rw [this, List.map_id]
theorem ints_call (name : ByteArray) (d : List Int) (b : ByteArray) (hns : name.size ≤ 140737488351232) (hs : b.size ≤ 1000000) : tensor_each_int64_s.f name 7 d b 7 = some (eachR wholeR (chkR name 7 d b) 7 7 b) := if_pos ⟨rfl, hns, by omega⟩
theorem ints_chk (name : ByteArray) (l : List Int) (hn : nameR name = true) (hl : l.length ≤ 100) : chkR name 7 [(l.length : Int)] (catB (l.map laid8)) = 0 := by
  have hL : ∀ b ∈ l.map laid8, b.size = 8 := by intro b hb; obtain ⟨x, _, rfl⟩ := List.mem_map.1 hb; exact laid8_size x
  have hc := chk_made name 7 [(l.length : Int)] (l.map laid8) 8 hn rfl (by decide) hL (by rw [List.length_map]; exact sizeS_one _ hl) (fun b _ => value_int _ _ _ b)
  exact hc
theorem ints_made (name : ByteArray) (l : List Int) (hn : nameR name = true) (hns : name.size ≤ 140737488351232) (hl : l.length ≤ 100) (hw : ∀ x ∈ l, (Lit.int .i64 x).wf = true) :
    tensor_Tensor_Ints.f name 7 [(l.length : Int)] (catB (l.map laid8)) = some (l, 0) := by
  have hs := catB_size (l.map laid8) 8 (by intro b hb; obtain ⟨x, _, rfl⟩ := List.mem_map.1 hb; exact laid8_size x)
  rw [List.length_map] at hs
  unfold tensor_Tensor_Ints.f
  rw [ints_call name _ _ hns (by rw [hs]; omega), Option.bind_some, ints_chk name l hn hl, ints_back l hw]
theorem flags_made (name : ByteArray) (l : List Bool) (hn : nameR name = true) (hns : name.size ≤ 140737488351232) (hl : l.length ≤ 100) :
    tensor_Tensor_Flags.f name 9 [(l.length : Int)] (catB (l.map flagB)) = some (l, 0) := by
  have hL : ∀ b ∈ l.map flagB, b.size = 1 := by intro b hb; obtain ⟨x, _, rfl⟩ := List.mem_map.1 hb; exact flagB_size x
  have hs := catB_size (l.map flagB) 1 hL
  rw [List.length_map] at hs
  have hc := chk_made name 9 [(l.length : Int)] (l.map flagB) 1 hn rfl (by decide) hL (by rw [List.length_map]; exact sizeS_one _ hl) (by intro b hb; obtain ⟨x, _, rfl⟩ := List.mem_map.1 hb; exact value_flag _ _ _ x)
  unfold tensor_Tensor_Flags.f
  rw [show tensor_each_bool_s.f name 9 [(l.length : Int)] (catB (l.map flagB)) 9 = some (eachR flagR (chkR name 9 [(l.length : Int)] (catB (l.map flagB))) 9 9 (catB (l.map flagB))) from if_pos ⟨rfl, hns, by rw [hs]; omega⟩, Option.bind_some, hc]
  have e : eachR flagR 0 9 9 (catB (l.map flagB)) = (l, 0) := by
    unfold eachR
    rw [if_pos rfl, if_pos rfl, show (sizeK 9).toNat = 1 from rfl, elems_cat (l.map flagB) 1 (by decide) hL, List.map_map]
    have : l.map (flagR ∘ flagB) = l.map id := List.map_congr_left (by intro x hx; rw [Function.comp_apply, id_eq]; exact flagR_flagB x)
    rw [this, List.map_id]
  rw [e]
theorem nums_made (name : ByteArray) (l : List (S23)) (hn : nameR name = true) (hns : name.size ≤ 140737488351232) (hl : l.length ≤ 100) (hm : ∀ x ∈ l, mayR x.f0 x.f1 = true) :
    tensor_Tensor_Nums.f name 14 [1, (l.length : Int)] (catB (l.map numB)) = some (l.map numF, 0) := by
  have hL : ∀ b ∈ l.map numB, b.size = 8 := by intro b hb; obtain ⟨x, _, rfl⟩ := List.mem_map.1 hb; exact numB_size x
  have hs := catB_size (l.map numB) 8 hL
  rw [List.length_map] at hs
  have hc := chk_made name 14 [1, (l.length : Int)] (l.map numB) 8 hn rfl (by decide) hL (by rw [List.length_map]; exact sizeS_two _ hl) (by intro b hb; obtain ⟨x, hx, rfl⟩ := List.mem_map.1 hb; exact value_num _ _ _ x (hm x hx))
  unfold tensor_Tensor_Nums.f
  rw [show tensor_each_complex128_s.f name 14 [1, (l.length : Int)] (catB (l.map numB)) 14 = some (eachR numR (chkR name 14 [1, (l.length : Int)] (catB (l.map numB))) 14 14 (catB (l.map numB))) from if_pos ⟨rfl, hns, by rw [hs]; omega⟩, Option.bind_some, hc]
  have e : eachR numR 0 14 14 (catB (l.map numB)) = (l.map numF, 0) := by
    unfold eachR
    rw [if_pos rfl, if_pos rfl, show (sizeK 14).toNat = 8 from rfl, elems_cat (l.map numB) 8 (by decide) hL, List.map_map]
    have : l.map (numR ∘ numB) = l.map numF := List.map_congr_left (by intro x hx; rw [Function.comp_apply]; exact numR_numB x (hm x hx))
    rw [this]
  rw [e]
theorem ints_same (l : List Int) (h : l.length ≤ 100) : agatelaw03_Ints_s.f l l = some true := by
  rw [show agatelaw03_Ints_s.f l l = some (decide (l = l)) from if_pos (by omega), decide_eq_true rfl]
theorem makes_l3 (name : ByteArray) (hn : nameR name = true) (hns : name.size ≤ 140737488351232) (z : List (S23)) (hz : z.length ≤ 100) (hm : ∀ x ∈ z, mayR x.f0 x.f1 = true) (d : Nat) : ∀ (k i : Nat), z.length - i = d → i ≤ z.length → d < k →
    agatelaw07_TensorMakes.l3 k name (z.map numF) (z.map numF) ((z.map numF).length : Int) (i : Int) = some true := by
  induction d with
  | zero =>
    intro k i hdd hi hk
    obtain ⟨k, rfl⟩ : ∃ m, k = m + 1 := ⟨k - 1, by omega⟩
    simp only [agatelaw07_TensorMakes.l3]
    have e : tensor_OfNums.f name ([] : List Int) [((4602678819172646912, 0) : Nat × Nat)] = some (name, 14, [], catB [laid8 0]) := by
      unfold tensor_OfNums.f tensor_of_c128.f
      rw [if_pos (by decide), if_pos (by decide), catOf, number_half, Option.bind_some, catOf, Option.bind_some, Option.bind_some]
      have : laid8 0 ++ (⟨#[]⟩ : ByteArray) = catB [laid8 0] := rfl
      rw [this, if_pos (by rw [catB_one, laid8_size]; decide), Option.bind_some]
    have hc := chk_made name 14 [] [laid8 0] 8 hn rfl (by decide) (by intro b hb; rw [List.mem_singleton.1 hb]; exact laid8_size 0) rfl (by intro b hb; rw [List.mem_singleton.1 hb, laid8_zero]; exact value_num _ _ _ ⟨0, 0⟩ rfl)
    rw [if_neg (by rw [List.length_map]; omega), e, Option.bind_some, show agatelaw07_Awake.f = some true from rfl, Option.bind_some, if_pos rfl, show agateref07_Laid_s.f 0 = some (laid8 0) from rfl, Option.bind_some, if_pos (by rw [catB_one])]
    rw [show tensor_Tensor_Check_s.f name 14 [] (catB [laid8 0]) = some (chkR name 14 [] (catB [laid8 0])) from if_pos ⟨hns, by rw [catB_one, laid8_size]; decide⟩, Option.bind_some, hc]
    rfl
  | succ d ih =>
    intro k i hdd hi hk
    obtain ⟨k, rfl⟩ : ∃ m, k = m + 1 := ⟨k - 1, by omega⟩
    have hlt : i < z.length := by omega
    have hlt2 : i < (z.map numF).length := by rw [List.length_map]; exact hlt
    have hmi := hm z[i] (List.getElem_mem _)
    obtain ⟨ha, hb⟩ := mayR_of0 hmi
    have e0 : rdOf ((0, 0) : Nat × Nat) (z.map numF) (i : Int) = numF z[i] := by simp [rdOf, hlt]
    have hq : ceq (numF z[i]) (numF z[i]) = true := by
      unfold ceq numF
      rw [Bool.and_eq_true]
      exact ⟨order_F _ (by omega) (by omega), order_F _ (by omega) (by omega)⟩
    simp only [agatelaw07_TensorMakes.l3]
    rw [if_pos (by omega), if_pos (by omega), if_pos (by omega), if_pos (by omega), e0, if_pos hq, wrap64_id (by omega) (by omega)]
    exact ih k (i + 1) (by omega) (by omega) (by omega)
theorem makes_l2 (name : ByteArray) (hn : nameR name = true) (hns : name.size ≤ 140737488351232) (z : List (S23)) (hz : z.length ≤ 100) (d : Nat) : ∀ (k i : Nat), z.length - i = d → i ≤ z.length → d + 200 < k → (∀ x ∈ z.take i, mayR x.f0 x.f1 = true) →
    agatelaw07_TensorMakes.l2 k name z (catB ((z.take i).map numB)) ((z.take i).map numF) z (z.length : Int) (i : Int) = some true := by
  induction d with
  | zero =>
    intro k i hdd hi hk hm
    obtain ⟨k, rfl⟩ : ∃ m, k = m + 1 := ⟨k - 1, by omega⟩
    rw [List.take_of_length_le (by omega)] at hm ⊢
    simp only [agatelaw07_TensorMakes.l2]
    rw [if_neg (by omega), of_nums_f name z hz hm, Option.bind_some, nums_made name z hn hns hz hm, Option.bind_some, if_pos rfl, if_pos rfl, if_pos rfl, if_pos rfl]
    exact makes_l3 name hn hns z hz hm z.length k 0 (by omega) (by omega) (by omega)
  | succ d ih =>
    intro k i hdd hi hk hm
    obtain ⟨k, rfl⟩ : ∃ m, k = m + 1 := ⟨k - 1, by omega⟩
    have hlt : i < z.length := by omega
    have e0 : rd_T23 z (i : Int) = z[i] := by simp [rd_T23, hlt]
    simp only [agatelaw07_TensorMakes.l2]
    rw [if_pos (by omega), if_pos (by omega), if_pos (by omega), e0, show agateref06_May_s.f z[i].f0 z[i].f1 = some (mayR z[i].f0 z[i].f1) from rfl, Option.bind_some]
    by_cases hmi : mayR z[i].f0 z[i].f1 = true
    case neg => rw [if_neg hmi]; rfl
    have ht : z.take (i + 1) = z.take i ++ [z[i]] := List.take_succ_eq_append_getElem hlt
    have hsz := catB_size ((z.take i).map numB) 8 (by intro b hb; obtain ⟨x, _, rfl⟩ := List.mem_map.1 hb; exact numB_size x)
    rw [List.length_map, List.length_take] at hsz
    have hnb : (laidV (floatOfInt .f32 z[i].f0) ++ laidV (floatOfInt .f32 z[i].f1)).size = 8 := numB_size z[i]
    rw [if_pos hmi, putR_yes _ _ hmi, Option.bind_some, if_pos (by rw [hsz, hnb]; omega), show agatelaw06_OfX.f z[i].f0 z[i].f1 = some (numF z[i]) from rfl, Option.bind_some, if_pos (by rw [List.length_map, List.length_take]; omega), wrap64_id (by omega) (by omega)]
    have := ih k (i + 1) (by omega) (by omega) (by omega) (by
      intro x hx
      rw [ht] at hx
      rcases List.mem_append.1 hx with hx | hx
      · exact hm x hx
      · rw [List.mem_singleton.1 hx]; exact hmi)
    rw [ht, List.map_append, List.map_append, catB_append] at this
    rw [show (z[i] :: []).map numB = [numB z[i]] from rfl, catB_one] at this
    exact this
theorem makes_l1 (name : ByteArray) (hn : nameR name = true) (hns : name.size ≤ 140737488351232) (b : List Bool) (hb : b.length ≤ 100) (z : List (S23)) (hz : z.length ≤ 100) (d : Nat) : ∀ (k i : Nat), b.length - i = d → i ≤ b.length → d + 400 < k →
    agatelaw07_TensorMakes.l1 k name b z b (b.length : Int) (i : Int) = some true := by
  induction d with
  | zero =>
    intro k i hdd hi hk
    obtain ⟨k, rfl⟩ : ∃ m, k = m + 1 := ⟨k - 1, by omega⟩
    simp only [agatelaw07_TensorMakes.l1]
    rw [if_neg (by omega)]
    exact makes_l2 name hn hns z hz z.length k 0 (by omega) (by omega) (by omega) (by intro x hx; rw [List.take_zero] at hx; cases hx)
  | succ d ih =>
    intro k i hdd hi hk
    obtain ⟨k, rfl⟩ : ∃ m, k = m + 1 := ⟨k - 1, by omega⟩
    simp only [agatelaw07_TensorMakes.l1]
    rw [if_pos (by omega), if_pos (by omega), if_pos (by omega), if_pos (by omega), bne_self_eq_false, if_neg (by decide), wrap64_id (by omega) (by omega)]
    exact ih k (i + 1) (by omega) (by omega) (by omega)
theorem makes_l0 (name : ByteArray) (hn : nameR name = true) (hns : name.size ≤ 140737488351232) (l : List Int) (hl : l.length ≤ 100) (hw : ∀ x ∈ l, (Lit.int .i64 x).wf = true) (b : List Bool) (hb : b.length ≤ 100) (z : List (S23)) (hz : z.length ≤ 100) (d : Nat) : ∀ (k i : Nat), l.length - i = d → i ≤ l.length → d + 600 < k →
    agatelaw07_TensorMakes.l0 k name l b z (catB ((l.take i).map laid8)) l (l.length : Int) (i : Int) = some true := by
  induction d with
  | zero =>
    intro k i hdd hi hk
    obtain ⟨k, rfl⟩ : ∃ m, k = m + 1 := ⟨k - 1, by omega⟩
    rw [List.take_of_length_le (by omega)]
    simp only [agatelaw07_TensorMakes.l0]
    rw [if_neg (by omega), Option.bind_some, of_ints_f name l hl, Option.bind_some, if_pos (by simp), ints_made name l hn hns hl hw, Option.bind_some, if_pos rfl, if_pos rfl, if_pos rfl, ints_same [(l.length : Int)] (by simp), Option.bind_some, if_pos rfl, if_pos rfl, ints_same l hl, Option.bind_some, if_pos rfl, of_flags_f name b hb, Option.bind_some, flags_made name b hn hns hb, Option.bind_some, if_pos rfl, if_pos rfl, if_pos rfl]
    exact makes_l1 name hn hns b hb z hz b.length k 0 (by omega) (by omega) (by omega)
  | succ d ih =>
    intro k i hdd hi hk
    obtain ⟨k, rfl⟩ : ∃ m, k = m + 1 := ⟨k - 1, by omega⟩
    have hlt : i < l.length := by omega
    have e0 : rd l (i : Int) = l[i] := by simp [rd, hlt]
    have ht : l.take (i + 1) = l.take i ++ [l[i]] := List.take_succ_eq_append_getElem hlt
    have hsz := catB_size ((l.take i).map laid8) 8 (by intro b hb; obtain ⟨x, _, rfl⟩ := List.mem_map.1 hb; exact laid8_size x)
    rw [List.length_map, List.length_take] at hsz
    simp only [agatelaw07_TensorMakes.l0]
    rw [if_pos (by omega), if_pos (by omega), if_pos (by omega), e0, show agateref07_Laid_s.f l[i] = some (laid8 l[i]) from rfl, Option.bind_some, if_pos (by rw [hsz, laid8_size]; omega), wrap64_id (by omega) (by omega)]
    have := ih k (i + 1) (by omega) (by omega) (by omega)
    rw [ht, List.map_append, catB_append, show (l[i] :: []).map laid8 = [laid8 l[i]] from rfl, catB_one] at this
    exact this
theorem TensorMakes : agatelaw07_TensorMakes.Pure := by
  intro name l b z w0 w1 w2 w3
  have early : ∀ k, agatelaw07_TensorMakes.j0 (k + 1) name l b z true = some true := by
    intro k
    simp only [agatelaw07_TensorMakes.j0]
    rfl
  refine ⟨1000, ?_⟩
  unfold agatelaw07_TensorMakes.f
  by_cases h1 : (l.length : Int) > 100
  · rw [if_pos h1]; exact early 999
  rw [if_neg h1]
  by_cases h2 : (b.length : Int) > 100
  · rw [if_pos h2]; exact early 999
  rw [if_neg h2]
  by_cases h3 : (z.length : Int) > 100
  · rw [if_pos h3]; exact early 999
  rw [if_neg h3, show agateref07_Name_s.f name = some (nameR name) from if_pos w0, Option.bind_some]
  by_cases hn : nameR name = true
  case neg => rw [Bool.eq_false_iff.2 hn]; exact early 999
  rw [hn, show (1000 : Nat) = 999 + 1 from rfl]
  simp only [agatelaw07_TensorMakes.j0]
  rw [if_neg (by decide)]
  exact makes_l0 name hn w0 l (by omega) w1.2.2 b (by omega) z (by omega) l.length 999 0 (by omega) (by omega) (by omega)
end Go.Proofs.Ytpojamikfcmnoaa.Pure
namespace Go.Proofs.Ytpojamikfcmnoaa.tensorMakes
open Go.ChangeShapes Go.WideShapes Go.ChangeAt Go.RowKit Go.Proofs.Ytpojamikfcmnoaa.X Go.Proofs.YtpojamikfcmnoaaW.PrintWords
set_option linter.unusedVariables false
theorem own : ownKnob Try.prog.godebug = none := by kernel_rfl
theorem laidOut : laidOutB Try.prog = true := by kernel_rfl
set_option maxRecDepth 100000 in
theorem lifted (os : Os) (started : os.Started) (H : Type) (enc : TypeId × Value → H) :
    ReturnsInHanded {} Try.checked os 10 .any (Rows.tensorMakesSpec.pre6 enc Try.prog Try.f10 Rows.tensorMakesRow.domain false) (Rows.tensorMakesSpec.post enc Try.prog Try.f10 false true false false) := by
  refine returnsInHanded_of_change_sized (C := Try.checked) own started (by kernel_rfl) Try.func10
    (ChangeSpec.witness6 (enc := enc) (C := Try.checked) false ⟨#[], #[.string ByteArray.empty, .slice none 0 0, .slice none 0 0, .slice none 0 0], []⟩ 8 (by kernel_rfl) (by kernel_rfl) (by kernel_rfl) (by kernel_rfl)) ?_
  intro W base args ds gs before hval0 hW hcnd hsz0 _
  have hsz : (DataW.weightsEach Try.prog (Try.f10.params.toList ++ Rows.tensorMakesSpec.plain.varTypes Try.prog) (ds ++ gs)).all (· ≤ reachBytes) = true := hsz0
  have hval : ∀ (j : Nat) t v, Try.f10.params[j]? = some t → args[j]? = some v → Value.okWide Try.prog W .any base t v := hval0
  have hW' := hW
  obtain ⟨p, q, hA0, hV, rfl, hfz, hnd⟩ := hW
  have hA : DataW.TrodAll enc Try.prog W 0 (fun _ => true) true Try.f10.params.toList args.toList ds p := hA0
  rw [Try.params10] at hA hval hsz
  obtain ⟨v0, vs0, d0, ds0, p0, q0, hargs, rfl, rfl, h0, r0⟩ := trodAll_cons hA
  obtain ⟨v1, vs1, d1, ds1, p1, q1, rfl, rfl, rfl, h1, r1⟩ := trodAll_cons r0
  obtain ⟨v2, vs2, d2, ds2, p2, q2, rfl, rfl, rfl, h2, r2⟩ := trodAll_cons r1
  obtain ⟨v3, vs3, d3, ds3, p3, q3, rfl, rfl, rfl, h3, r3⟩ := trodAll_cons r2
  obtain ⟨rfl, rfl, rfl⟩ := trodAll_nil r3
  obtain rfl : args = #[v0, v1, v2, v3] := by cases args; simp_all
  obtain ⟨rfl, rfl⟩ := trodVars_none hV
  have k0 := h0
  have lt0 : ∀ x ∈ p0, x.block < W.heap.size := by obtain ⟨m, hm⟩ := k0; exact DataW.trod_lt m _ _ _ hm
  obtain ⟨fuel0, hf0⟩ := h0
  obtain ⟨x0, K0, wf0⟩ := ((Opens.string Try.underlying9 (by kernel_rfl)) : Opens enc Try.prog W 9 Kd.string (fun a => a.size ≤ 140737488351232)).go fuel0 _ _ hf0 (fun m hm => by simpa using List.all_eq_true.1 hsz m (DataW.weights_mem_each (j := 0) (t := 9) rfl rfl m hm))
  obtain ⟨b0, rfl⟩ := okWide_string Try.underlying9 (hval 0 9 v0 rfl rfl)
  obtain rfl : b0 = x0 := by have e_ := K0; simpa [Kd.int, Kd.bool, Kd.string, Kd.scalar, Value.cells] using e_
  have k1 := h1
  have lt1 : ∀ x ∈ p1, x.block < W.heap.size := by obtain ⟨m, hm⟩ := k1; exact DataW.trod_lt m _ _ _ hm
  obtain ⟨fuel1, hf1⟩ := h1
  obtain ⟨x1, K1, wf1⟩ := ((Opens.slice Try.underlying39 (by kernel_rfl) (by kernel_rfl) (Opens.int Try.underlying2 (by kernel_rfl))) : Opens enc Try.prog W 39 (Kd.slice 2 (Kd.int .i64)) (fun l => l.length ≤ maxLen ∧ l.length * 8 ≤ 140737488351232 ∧ ∀ x ∈ l, (fun a => (Lit.int .i64 a).wf = true) x)).go fuel1 _ _ hf1 (fun m hm => by simpa using List.all_eq_true.1 hsz m (DataW.weights_mem_each (j := 1) (t := 39) rfl rfl m hm))
  obtain ⟨a1, len1, cap1, rfl⟩ := okWide_slice Try.underlying39 (hval 1 39 v1 rfl rfl)
  obtain ⟨A1, c1, e1, hc1, hr1⟩ := K1
  obtain ⟨rfl, rfl, rfl⟩ : a1 = A1 ∧ len1 = x1.length ∧ cap1 = c1 := by simpa [Value.cells] using e1
  have k2 := h2
  have lt2 : ∀ x ∈ p2, x.block < W.heap.size := by obtain ⟨m, hm⟩ := k2; exact DataW.trod_lt m _ _ _ hm
  obtain ⟨fuel2, hf2⟩ := h2
  obtain ⟨x2, K2, wf2⟩ := ((Opens.slice Try.underlying74 (by kernel_rfl) (by kernel_rfl) (Opens.bool Try.underlying4 (by kernel_rfl))) : Opens enc Try.prog W 74 (Kd.slice 4 Kd.bool) (fun l => l.length ≤ maxLen ∧ l.length * 1 ≤ 140737488351232 ∧ ∀ x ∈ l, (fun _ => True) x)).go fuel2 _ _ hf2 (fun m hm => by simpa using List.all_eq_true.1 hsz m (DataW.weights_mem_each (j := 2) (t := 74) rfl rfl m hm))
  obtain ⟨a2, len2, cap2, rfl⟩ := okWide_slice Try.underlying74 (hval 2 74 v2 rfl rfl)
  obtain ⟨A2, c2, e2, hc2, hr2⟩ := K2
  obtain ⟨rfl, rfl, rfl⟩ : a2 = A2 ∧ len2 = x2.length ∧ cap2 = c2 := by simpa [Value.cells] using e2
  have k3 := h3
  have lt3 : ∀ x ∈ p3, x.block < W.heap.size := by obtain ⟨m, hm⟩ := k3; exact DataW.trod_lt m _ _ _ hm
  obtain ⟨fuel3, hf3⟩ := h3
  obtain ⟨x3, K3, wf3⟩ := ((Opens.slice Try.underlying84 (by kernel_rfl) (by kernel_rfl) (op23 enc W)) : Opens enc Try.prog W 84 (Kd.slice 23 k23) (fun l => l.length ≤ maxLen ∧ l.length * 16 ≤ 140737488351232 ∧ ∀ x ∈ l, wf23 x)).go fuel3 _ _ hf3 (fun m hm => by simpa using List.all_eq_true.1 hsz m (DataW.weights_mem_each (j := 3) (t := 84) rfl rfl m hm))
  obtain ⟨a3, len3, cap3, rfl⟩ := okWide_slice Try.underlying84 (hval 3 84 v3 rfl rfl)
  obtain ⟨A3, c3, e3, hc3, hr3⟩ := K3
  obtain ⟨rfl, rfl, rfl⟩ : a3 = A3 ∧ len3 = x3.length ∧ cap3 = c3 := by simpa [Value.cells] using e3
  clear hA0 hval0 hsz0 hsz
  obtain ⟨k, hp⟩ := Pure.TensorMakes b0 x1 x2 x3 wf0 wf1 wf2 wf3
  refine (agatelaw07_TensorMakes.calls k b0 a1 cap1 x1 a2 cap2 x2 a3 cap3 x3 true W hr1 hc1 hr2 hc2 hr3 hc3 hp).mono fun e W' ⟨he, bel0⟩ => ?_
  have bel : Below W.heap.size W W' := bel0
  subst he
  exact ⟨_, rfl, _, _, _, [], _, [], hW', trodAll_mk1 (shut_bool Try.underlying4 _), (trodAll_cons_mk (Below.trod laidOut (by kernel_rfl) (of_decide_eq_true (by kernel_rfl)) k0 bel lt0) (trodAll_cons_mk (Below.trod laidOut (by kernel_rfl) (of_decide_eq_true (by kernel_rfl)) k1 bel lt1) (trodAll_cons_mk (Below.trod laidOut (by kernel_rfl) (of_decide_eq_true (by kernel_rfl)) k2 bel lt2) (trodAll_cons_mk (Below.trod laidOut (by kernel_rfl) (of_decide_eq_true (by kernel_rfl)) k3 bel lt3) trodAll_mk0)))), rfl, bel.frame _, fun h => by cases h⟩
theorem over : Rows.tensorMakesRow.holds Try.pinned (OpenSpec.ofChange Rows.tensorMakesSpec) :=
  OpenClaim.holds_of_wide 10 Try.f10 rfl rfl rfl rfl rfl rfl rfl ⟨rfl, rfl, rfl, rfl, rfl⟩ rfl rfl rfl rfl rfl (by kernel_rfl) Try.func10 (by kernel_rfl)
    (of_decide_eq_true (by kernel_rfl)) (by unfold Func.isWrapper; first | (rw [if_pos (by decide +kernel)]; kernel_rfl) | (rw [if_neg (by decide +kernel)]; exact ⟨rfl, rfl⟩))
    (fun os started H enc _ => lifted os started H enc)
theorem proved : Rows.TensorMakesSaid := over
#print axioms proved
end Go.Proofs.Ytpojamikfcmnoaa.tensorMakes
namespace Go.Proofs.Ytpojamikfcmnoaa
theorem tensorMakes_holds : Rows.TensorMakesSaid := tensorMakes.proved
end Go.Proofs.Ytpojamikfcmnoaa
