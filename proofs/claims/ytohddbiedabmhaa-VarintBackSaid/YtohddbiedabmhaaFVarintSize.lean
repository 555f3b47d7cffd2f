-- by xprint.py, a program of this session, over the kit's print.py
import Derived.Test.YtohddbiedabmhaaT0
import Derived.Test.YtohddbiedabmhaaLVarint
import Derived.ScopeJumps
import Derived.WalkMore
namespace Go.Proofs.Ytohddbiedabmhaa.X
open Go.RowKit Go.Proofs.YtohddbiedabmhaaW.PrintWords Go.Proofs.YtohddbiedabmhaaW.PrintLast Go.Proofs.YtohddbiedabmhaaW.PrintMore
attribute [local go_sem] max2_int min2_int max_two min_two max_three min_three max_four min_four   -- for this text's walks alone
set_option linter.unusedVariables false
set_option linter.unusedSimpArgs false

def varint_Size.f (a0 : Int) : Option Int := if 0 ≤ a0 ∧ a0 < 18446744073709551616 then some (vSize a0.toNat : Int) else none
def varint_Size.J (w : World) (r : Int) (a' : Act) (w' : World) : Prop :=
  ∃ (m : Nat) (acc : Nat) (u4 u5 u6 u7 u8 u9 u10 : Value), a' = { tmps := #[.int .u64 m, undef, .int .i64 0, .int .i64 acc, u4, u5, u6, u7, u8, u9, u10], defers := [] } ∧ Aside0 (r = vSize m + acc - 1) ∧ Aside0 (m < 18446744073709551616) ∧ Aside0 (acc + vSize m ≤ 20) ∧ acc ≤ 20 ∧ 1 ≤ acc ∧ Drawn0 w w'
set_option maxHeartbeats 8000000 in
set_option maxRecDepth 100000 in
theorem varint_Size.calls (a0 : Int) (r : Int) (w : World) (h : varint_Size.f a0 = some r) :
    Calls Try.prog 16 #[.int .u64 a0] w fun e w' => e = .returned (.int .i64 r) ∧ Drawn0 w w' := by
  unfold varint_Size.f at h
  by_cases h0 : 0 ≤ a0 ∧ a0 < 18446744073709551616
  · rw [if_pos h0] at h
    obtain ⟨h0, h1⟩ := h0
    obtain ⟨n, rfl⟩ := Int.eq_ofNat_of_zero_le h0
    have HJ : Aside0 (r = (vSize n : Int)) := ⟨(Option.some.inj h).symm⟩
    have H20 : Aside0 (vSize n ≤ 10) := ⟨vSize_le n 9 (show n < 1180591620717411303424 by omega)⟩
    have H1 := Aside0.mk h1
    clear h h1
    go_enter Try.func16, Try.ntmps16
    go_wp2
    refine wp_scope_jumps 0 (varint_Size.J w r) (fun a' _ => match a'.tmps.getD 0 undef with | .int _ q => q.toNat | _ => 0) rfl ?_ ?_
    · go_wp2
      go_step3
      go_wp2
      · rename_i hge
        go_step3
        refine ⟨rfl, n / 128, 2, _, _, _, _, _, _, _, rfl, ⟨?_⟩, ⟨?_⟩, ⟨?_⟩, by omega, by omega, Drawn0.refl _⟩
        · rw [HJ.out, vSize_ge (v := n) (by omega)]; omega
        · have := H1.out; omega
        · have := H20.out; rw [vSize_ge (v := n) (by omega)] at this; omega
      · rename_i hlt
        simp only [Exit.jump]
        go_ret
        refine ⟨?_, Drawn0.refl _⟩
        rw [HJ.out, vSize_lt (v := n) (by omega)]; rfl
    · rintro a' w' ⟨m, acc, u4, u5, u6, u7, u8, u9, u10, rfl, HR, HM, HA, ha, ha1, hd⟩
      go_wp2
      · rename_i hge
        go_step3
        refine ⟨rfl, ⟨m / 128, acc + 1, _, _, _, _, _, _, _, rfl, ⟨?_⟩, ⟨?_⟩, ⟨?_⟩, ?_, by omega, hd⟩, ?_⟩
        · rw [HR.out, vSize_ge (v := m) (by omega)]; omega
        · have := HM.out; omega
        · have := HA.out; rw [vSize_ge (v := m) (by omega)] at this; omega
        · have := HA.out; rw [vSize_ge (v := m) (by omega)] at this; have := vSize_pos (m / 128); omega
        · simp; omega
      · rename_i hlt
        simp only [Exit.jump]
        go_ret
        refine ⟨?_, hd⟩
        rw [HR.out, vSize_lt (v := m) (by omega), show ((1 : Nat) : Int) + (acc : Int) - 1 = acc by omega]; rfl
  · rw [if_neg h0] at h; cases h

end Go.Proofs.Ytohddbiedabmhaa.X
