-- by xprint.py, a program of this session, over the kit's print.py
import Derived.Test.YtohddbiedabmhaaT0
import Derived.Test.YtohddbiedabmhaaLScope
import Derived.Test.YtohddbiedabmhaaLVarint
import Derived.ScopeJumps
import Derived.WalkMore
namespace Go.Proofs.Ytohddbiedabmhaa.X
open Go.RowKit Go.Proofs.YtohddbiedabmhaaW.PrintWords Go.Proofs.YtohddbiedabmhaaW.PrintLast Go.Proofs.YtohddbiedabmhaaW.PrintMore
attribute [local go_sem] max2_int min2_int max_two min_two max_three min_three max_four min_four   -- for this text's walks alone
set_option linter.unusedVariables false
set_option linter.unusedSimpArgs false

def varint_Put.f (a0 : Int) : Option ByteArray := if 0 ≤ a0 ∧ a0 < 18446744073709551616 then some (vStr a0.toNat) else none
def varint_Put.Rel (N : Nat) (w : World) (a' : Act) (w' : World) : Prop := ∃ (m : Nat) (xs : List Int) (u3 u4 u5 u6 u7 u8 u9 u10 u11 u12 u13 u14 u15 u16 u17 u18 u19 u20 : Value),
    a' = { tmps := #[.int .u64 m, undef, .string ⟨#[]⟩, u3, u4, u5, u6, u7, u8, u9, u10, u11, u12, u13, u14, u15, u16, u17, u18, u19, u20], defers := [] } ∧ Aside0 (m < 18446744073709551616) ∧
    Aside0 (Kd.R (Kd.int .u8) 5 w' w.heap.size (fun _ => True) u3 xs) ∧ Aside0 (Below w.heap.size w w') ∧ Aside0 (xs ++ (vPut m).map Int.ofNat = (vPut N).map Int.ofNat)
set_option maxHeartbeats 8000000 in
set_option maxRecDepth 100000 in
theorem varint_Put.calls (a0 : Int) (r : ByteArray) (w : World) (h : varint_Put.f a0 = some r) :
    Calls Try.prog 15 #[.int .u64 a0] w fun e w' => e = .returned (.string r) ∧ Below w.heap.size w w' := by
  unfold varint_Put.f at h
  by_cases h0 : 0 ≤ a0 ∧ a0 < 18446744073709551616
  · rw [if_pos h0] at h
    obtain ⟨h0, h1⟩ := h0
    obtain ⟨n, rfl⟩ := Int.eq_ofNat_of_zero_le h0
    have HJ : Aside0 (strOfNums ((vPut n).map Int.ofNat) = r) := ⟨Option.some.inj h⟩
    have H1 := Aside0.mk h1
    clear h h1
    go_enter Try.func15, Try.ntmps15
    go_wp2
    refine wp_scope_pre 0 (varint_Put.Rel n w) (fun a' _ => match a'.tmps.getD 0 undef with | .int _ q => q.toNat | _ => 0) rfl ?_ ?_
    · intro K hK
      have HK := Aside0.mk hK
      clear hK
      go_wp2
      refine HK.out _ _ ⟨n, [], _, _, _, _, _, _, _, _, _, _, _, _, _, _, _, _, _, _, rfl, ⟨by have := H1.out; omega⟩, ⟨Kd.R_nil _ _ _ _ _⟩, ⟨Below.refl _ _⟩, ⟨rfl⟩⟩
    rintro a' w' ⟨m, xs, u3, u4, u5, u6, u7, u8, u9, u10, u11, u12, u13, u14, u15, u16, u17, u18, u19, u20, rfl, HM, HO, HB, HE⟩
    have HL : Aside0 (xs.length ≤ 10) := ⟨by
      have := congrArg List.length HE.out
      simp only [List.length_append, List.length_map, vPut_length] at this
      have := vSize_10 n (by have := H1.out; omega)
      omega⟩
    by_cases hge : 128 ≤ (m : Int)
    · have HX : Aside0 ((xs ++ [((m : Int) % 128 + 128)]) ++ (vPut (m / 128)).map Int.ofNat = (vPut n).map Int.ofNat) := ⟨by
        rw [← HE.out, vPut_ge (v := m) (by omega)]; simp⟩
      go_wp2_with (first | ((with_reducible refine gate_builtin (b := .append) (xs := #[.tmp 6, .tmp 11]) rfl ?_); at_builtin; refine Kd.R_append (Kd.int .u8) (w0 := w) w.heap.size rfl (.tmp 6) (.tmp 11) 24 5 (.int .u8 0) 1 rfl Try.underlying24 info5 rfl (by decide) (by omega) u3 xs ((m : Int) % 128 + 128) [.int .u8 ((m : Int) % 128 + 128)] (fun _ => True) (fun _ => False) rfl rfl ?aP (fun _ hk => hk.elim) ?aF ?aO ?aB ?aS ?aL ?_; (case aP => exact rfl); (case aB => exact (by repeat (first | (with_reducible first | exact HB.out | apply below_alloc | apply pw_below_drewN | apply below_drew1) | exact HB.out))); (case aF => exact (fun _ _ => trivial)); (case aO => exact (by (with_reducible repeat (first | apply Kd.R_alloc | apply Kd.R_drewN | apply Kd.R_drew)); exact HO.out)); (case aS => exact (below_size (by repeat (first | (with_reducible first | exact HB.out | apply below_alloc | apply pw_below_drewN | apply below_drew1) | exact HB.out)))); (case aL => have := HL.out; omega); intro v105 w8 ho hb hg hat; have n0_ := Aside0.mk hb; have n1_ := Aside0.mk ho; clear HB; clear HO; have HB := n0_; have HO := n1_; clear n0_ n1_; clear ho hb hg hat))
      go_step3
      refine ⟨rfl, ⟨m / 128, _, _, _, _, _, _, _, _, _, _, _, _, _, _, _, _, _, _, _, by rfl, ⟨by have := HM.out; omega⟩, HO, HB, HX⟩, ?_⟩
      simp
      omega
    · have HX : Aside0 (xs ++ [(m : Int)] = (vPut n).map Int.ofNat) := ⟨by
        rw [← HE.out, vPut_lt (v := m) (by omega)]; rfl⟩
      go_wp2_with (first | ((with_reducible refine gate_builtin (b := .append) (xs := #[.tmp 15, .tmp 18]) rfl ?_); at_builtin; refine Kd.R_append (Kd.int .u8) (w0 := w) w.heap.size rfl (.tmp 15) (.tmp 18) 24 5 (.int .u8 0) 1 rfl Try.underlying24 info5 rfl (by decide) (by omega) u3 xs ((m : Int)) [.int .u8 ((m : Int))] (fun _ => True) (fun _ => False) rfl rfl ?aP (fun _ hk => hk.elim) ?aF ?aO ?aB ?aS ?aL ?_; (case aP => exact rfl); (case aB => exact (by repeat (first | (with_reducible first | exact HB.out | apply below_alloc | apply pw_below_drewN | apply below_drew1) | exact HB.out))); (case aF => exact (fun _ _ => trivial)); (case aO => exact (by (with_reducible repeat (first | apply Kd.R_alloc | apply Kd.R_drewN | apply Kd.R_drew)); exact HO.out)); (case aS => exact (below_size (by repeat (first | (with_reducible first | exact HB.out | apply below_alloc | apply pw_below_drewN | apply below_drew1) | exact HB.out)))); (case aL => have := HL.out; omega); intro v105 w8 ho hb hg hat; have n0_ := Aside0.mk hb; have n1_ := Aside0.mk ho; clear HB; clear HO; have HB := n0_; have HO := n1_; clear n0_ n1_; have hcv := own_string (P := Try.prog) Try.underlying24 Try.underlying5 Try.underlying9 (Kd.own_of_R HO.out); clear ho hb hg hat))
      simp only [Exit.jump]
      go_ret
      exact ⟨by rw [← HJ.out, ← HX.out]; rfl, HB.out⟩
  · rw [if_neg h0] at h; cases h

end Go.Proofs.Ytohddbiedabmhaa.X
