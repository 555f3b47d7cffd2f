/- The law WireLong holds of the given program for every input, without any condition. -/
import Derived.Test.YtohddbiedabmhaaFAgatelaw02WireLong
import Derived.Test.YtohddbiedabmhaaGAgatelaw02Awake
import Derived.Test.YtohddbiedabmhaaGWireFieldBytes
import Derived.Test.YtohddbiedabmhaaGWireFields
import Derived.Test.YtohddbiedabmhaaGWireText
import Derived.Test.YtohddbiedabmhaaLVarint
import Derived.Test.YtohddbiedabmhaaLVarintMore
import Derived.Test.YtohddbiedabmhaaLWire
namespace Go.Proofs.Ytohddbiedabmhaa.Pure
open Go.RowKit Go.Proofs.Ytohddbiedabmhaa.X Go.Proofs.YtohddbiedabmhaaW.PrintWords Go.Proofs.YtohddbiedabmhaaW.PrintLast Go.Proofs.YtohddbiedabmhaaW.PrintMore
set_option linter.unusedVariables false
set_option linter.unusedSimpArgs false
theorem replicate_size (n : Nat) : (strOfNums (List.replicate n 0)).size = n := by simp [strOfNums, ByteArray.size]
theorem one_text (d : ByteArray) (h : d.size ≤ 1048576) : oneS (bytesS 1 2 0 d) = ((1, 2, 0, d), (bytesS 1 2 0 d).size, 0) := by
  have hb : bytesS 1 2 0 d = vStr 10 ++ vStr d.size ++ d := by
    unfold bytesS
    rw [if_pos (by decide), if_neg (by decide), if_pos rfl]; rfl
  have hr : vRead (bytesS 1 2 0 d) = (10, 1, 0) := by
    rw [hb, ByteArray.append_assoc, vRead_put 10 (by decide), vSize_lt (by decide)]
  have hsz : (bytesS 1 2 0 d).size = 1 + vSize d.size + d.size := by
    rw [hb, ByteArray.size_append, ByteArray.size_append, vStr_size, vStr_size, vSize_lt (show 10 < 128 by decide)]
  have hex : (bytesS 1 2 0 d).extract 1 (bytesS 1 2 0 d).size = vStr d.size ++ d := by
    apply ns_inj
    rw [ns_extract, hb, ns_append, ns_append, ns_vStr, ns_vStr, vPut_lt (show 10 < 128 by decide), ← hb, hsz, ns_append, ns_vStr]
    simp only [List.cons_append, List.nil_append, List.drop_succ_cons, List.drop_zero]
    rw [List.take_of_length_le (by rw [List.length_append, vPut_length, ns_length]; omega)]
  have hq : vRead ((bytesS 1 2 0 d).extract 1 (bytesS 1 2 0 d).size) = (d.size, vSize d.size, 0) := by
    rw [hex, vRead_put _ (by omega)]
  have hd : (bytesS 1 2 0 d).extract (1 + vSize d.size) (1 + vSize d.size + d.size) = d := by
    apply ns_inj
    rw [ns_extract, hb, ns_append, ns_append, ns_vStr, ns_vStr, vPut_lt (show 10 < 128 by decide)]
    rw [List.drop_append_of_le_length (by simp [vPut_length]; omega), List.drop_of_length_le (by simp [vPut_length]; omega)]
    rw [List.nil_append, List.take_of_length_le (by rw [ns_length]; omega)]
  unfold oneS
  simp only [hr, hq]
  rw [hsz]
  simp only [hd]
  simp
theorem text_eval (d : ByteArray) (hd : d.size ≤ 1048576) : wire_Text_s.f 1 d = some (bytesS 1 2 0 d) := by
  unfold wire_Text_s.f wire_Field_Bytes_s.f
  rw [if_pos (by omega)]
theorem text_size (d : ByteArray) (h0 : 16384 ≤ d.size) (h1 : d.size < 2097152) : (bytesS 1 2 0 d).size = d.size + 4 := by
  unfold bytesS
  rw [if_pos (by decide), if_neg (by decide), if_pos rfl, ByteArray.size_append, ByteArray.size_append, vStr_size, vStr_size, show (8 * 1 + 2 : Int).toNat = 10 from rfl, vSize_lt (show 10 < 128 by decide),
    vSize_ge (by omega), vSize_ge (by omega), vSize_lt (by omega)]
  omega
theorem fields_long (d : ByteArray) (hd : d.size = 1048573) : wire_Fields_s.f (bytesS 1 2 0 d) = some ([], 2) := by
  have e2 := text_size d (by omega) (by omega)
  unfold wire_Fields_s.f fieldsS
  rw [if_pos (by omega), if_pos (by omega)]; rfl
theorem fields_fit (d : ByteArray) (hd : d.size = 1048572) : wire_Fields_s.f (bytesS 1 2 0 d) = some ([toP (1, 2, 0, d)], 0) := by
  have e2 := text_size d (by omega) (by omega)
  have h1 := one_text d (by omega)
  unfold wire_Fields_s.f fieldsS
  rw [if_pos (by omega), if_neg (by omega)]
  generalize bytesS 1 2 0 d = b at *
  obtain ⟨k, hk⟩ : ∃ k, b.size = k + 1 := ⟨b.size - 1, by omega⟩
  have hx : (b.extract b.size b.size).size = 0 := by rw [ByteArray.size_extract]; omega
  have hF : ∀ k, fieldsF k (b.extract b.size b.size) = ([], 0) := by
    intro k
    cases k with
    | zero => rfl
    | succ k => simp [fieldsF, hx]
  have h3 : fieldsF b.size b = ([(1, 2, 0, d)], 0) := by
    have : fieldsF (k + 1) b = ([(1, 2, 0, d)], 0) := by
      rw [fieldsF, if_neg (by omega), h1]
      simp only [hF]
      simp
    rw [← hk] at this
    exact this
  rw [h3]; rfl
theorem fit_end (d : ByteArray) (hd : d.size = 1048572) :
    (if (([toP (1, 2, 0, d)] : List (S47)).length : Int) = 1 then if 0 < (([toP (1, 2, 0, d)] : List (S47)).length : Int) then some (((rd_T47 [toP (1, 2, 0, d)] 0).f3.size : Int) == 1048572) else none else some false) = some true := by
  rw [if_pos (by rfl), if_pos (by simp), show rd_T47 [toP (1, 2, 0, d)] 0 = toP (1, 2, 0, d) from rfl]
  show some ((d.size : Int) == 1048572) = some true
  rw [hd]; rfl
theorem WireLong : agatelaw02_WireLong.Pure := by
  intro more
  refine ⟨1, ?_⟩
  cases more with
  | true =>
    unfold agatelaw02_WireLong.f
    rw [if_pos rfl]
    simp only [agatelaw02_WireLong.j0]
    rw [if_pos (by decide), if_pos (by decide)]
    obtain ⟨d, hd⟩ : ∃ d, d = strOfNums (List.replicate (1048572 + 1 : Int).toNat 0) := ⟨_, rfl⟩
    have hds : d.size = 1048573 := by rw [hd, replicate_size]; rfl
    rw [← hd]
    clear hd
    rw [text_eval d (by omega), Option.bind_some, fields_long d hds, Option.bind_some, if_pos trivial]
    rfl
  | false =>
    unfold agatelaw02_WireLong.f
    rw [if_neg (by decide)]
    simp only [agatelaw02_WireLong.j0]
    rw [if_pos (by decide), if_pos (by decide)]
    obtain ⟨d, hd⟩ : ∃ d, d = strOfNums (List.replicate (1048572 : Int).toNat 0) := ⟨_, rfl⟩
    have hds : d.size = 1048572 := by rw [hd, replicate_size]; rfl
    rw [← hd]
    clear hd
    have e2 := text_size d (by omega) (by omega)
    rw [text_eval d (by omega), Option.bind_some, fields_fit d hds, Option.bind_some, if_neg (by decide)]
    simp only [agatelaw02_Awake_s.f, Option.bind_some, if_true]
    rw [if_pos (by omega)]
    exact fit_end d hds

end Go.Proofs.Ytohddbiedabmhaa.Pure
