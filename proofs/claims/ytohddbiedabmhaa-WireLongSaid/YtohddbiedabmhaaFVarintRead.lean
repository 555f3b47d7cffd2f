-- by xprint.py, a program of this session, over the kit's print.py
import Derived.Test.YtohddbiedabmhaaT0
import Derived.Test.YtohddbiedabmhaaLScope
import Derived.Test.YtohddbiedabmhaaLVarint
import Derived.ScopeJumps
import Derived.WalkMore
namespace Go.Proofs.Ytohddbiedabmhaa.X
open Go.RowKit Go.Proofs.YtohddbiedabmhaaW.PrintWords Go.Proofs.YtohddbiedabmhaaW.PrintLast Go.Proofs.YtohddbiedabmhaaW.PrintMore
attribute [local go_sem] max2_int min2_int max_two min_two max_three min_three max_four min_four   -- for this text's walks alone
set_option linter.unusedVariables false
set_option linter.unusedSimpArgs false

def varint_Read.f (a0 : ByteArray) : Option (Int × Int × Int) := some ((vRead a0).1, (vRead a0).2.1, (vRead a0).2.2)
structure varint_Read.J (s : ByteArray) (r : Nat × Nat × Nat) (w : World) (n v : Nat) (w' : World) : Prop where
  n9 : n ≤ 9
  nle : n ≤ s.size
  vlt : v < 128 ^ n
  eq : readS ((ns s).drop n) n v = r
  dr : Drawn0 w w'
def varint_Read.Rel (s : ByteArray) (w : World) (a' : Act) (w' : World) : Prop := ∃ (n v : Nat) (u7 u8 u9 u10 u11 u12 u13 u14 u15 u16 u17 u18 u19 u20 u21 u22 u23 u24 u25 u26 u27 u28 u29 u30 u31 u32 u33 u34 : Value),
    a' = { tmps := #[.string s, undef, .int .u64 0, .int .i64 0, .int .i64 0, .int .u64 v, .int .i64 n, u7, u8, u9, u10, u11, u12, u13, u14, u15, u16, u17, u18, u19, u20, u21, u22, u23, u24, u25, u26, u27, u28, u29, u30, u31, u32, u33, u34], defers := [] } ∧ varint_Read.J s (vRead s) w n v w'
set_option maxHeartbeats 8000000 in
set_option maxRecDepth 100000 in
theorem varint_Read.calls (a0 : ByteArray) (r1 r2 r3 : Int) (w : World) (h : varint_Read.f a0 = some (r1, r2, r3)) :
    Calls Try.prog 13 #[.string a0] w fun e w' => e = .returned (.tuple #[.int .u64 r1, .int .i64 r2, .int .i64 r3]) ∧ Drawn0 w w' := by
  have HE : Aside0 (((vRead a0).1 : Int) = r1 ∧ ((vRead a0).2.1 : Int) = r2 ∧ ((vRead a0).2.2 : Int) = r3) := by
    unfold varint_Read.f at h
    simp only [Option.some.injEq, Prod.mk.injEq] at h
    exact ⟨h⟩
  clear h
  go_enter Try.func13, Try.ntmps13
  go_wp2
  refine wp_scope_pre 0 (varint_Read.Rel a0 w) (fun a' _ => match a'.tmps.getD 6 undef with | .int _ q => 10 - q.toNat | _ => 0) rfl ?_ ?_
  · intro K hK
    have HK := Aside0.mk hK
    clear hK
    go_wp2
    refine HK.out _ _ ⟨0, 0, _, _, _, _, _, _, _, _, _, _, _, _, _, _, _, _, _, _, _, _, _, _, _, _, _, _, _, _, rfl, ⟨by omega, by omega, by decide, rfl, Drawn0.refl _⟩⟩
  rintro a' w' ⟨n, v, u7, u8, u9, u10, u11, u12, u13, u14, u15, u16, u17, u18, u19, u20, u21, u22, u23, u24, u25, u26, u27, u28, u29, u30, u31, u32, u33, u34, rfl, hJ⟩
  have hn9 := hJ.n9
  have hdr := hJ.dr
  have HJ : Aside0 (varint_Read.J a0 (vRead a0) w n v w') := ⟨hJ⟩
  have HV : Aside0 (v < 128 ^ n ∧ readS ((ns a0).drop n) n v = vRead a0) := ⟨hJ.vlt, hJ.eq⟩
  have hnle := hJ.nle
  clear hJ
  rcases Nat.lt_or_ge n a0.size with hlt | hge
  · have hb0 : ((n : Int) == (a0.size : Int)) = false := by simp; omega
    have h7 : 0 ≤ 7 * (n : Int) := by omega
    have hw7 : wrap64 (7 * (n : Int)) = 7 * (n : Int) := by unfold wrap64; omega
    have HR : Aside0 (readS ((ns a0).drop n) n v = vRead a0) := ⟨HV.out.2⟩
    have hcons := ns_drop a0 n hlt
    have HR : Aside0 (readS (a0[n].toNat :: (ns a0).drop (n + 1)) n v = vRead a0) := ⟨hcons ▸ HV.out.2⟩
    clear hcons
    by_cases h9 : n = 9 ∧ 1 < a0[n].toNat
    · obtain ⟨h9, hc⟩ := h9
      have hb9 : ((n : Int) == 9) = true := by simp; omega
      have HQ : Aside0 (vRead a0 = (0, 0, 2)) := ⟨by rw [← HR.out, readS, if_pos ⟨h9, hc⟩]⟩
      have hc' : decide ((1 : Int) < (a0[n].toNat : Int)) = true := by simp; omega
      clear h9 hc
      go_wp2
      simp only [Exit.jump]
      go_ret3
      obtain ⟨e1, e2, e3⟩ := HE.out
      rw [HQ.out] at e1 e2 e3
      subst e1 e2 e3
      exact ⟨rfl, hdr⟩
    · have HO := Aside0.mk (or_step v a0[n].toNat n HV.out.1 hn9 (by omega))
      have HS : Aside0 ((if a0[n].toNat < 128 then (v + a0[n].toNat * 128 ^ n, n + 1, 0) else readS ((ns a0).drop (n + 1)) (n + 1) (v + (a0[n].toNat % 128) * 128 ^ n)) = vRead a0) := ⟨by rw [← readS_cons (by omega)]; exact HR.out⟩
      have hc9 : ((n : Int) == 9) = true → decide ((1 : Int) < (a0[n].toNat : Int)) = false := by simp; omega
      have HVB : Aside0 (a0[n].toNat ≥ 128 → n < 9 ∧ v + a0[n].toNat % 128 * 128 ^ n < 128 ^ (n + 1)) := ⟨fun hge => by
        have := HV.out.1
        refine ⟨by omega, ?_⟩
        have h1 : a0[n].toNat % 128 * 128 ^ n ≤ 127 * 128 ^ n := Nat.mul_le_mul_right _ (by omega)
        rw [Nat.pow_succ]; omega⟩
      have Hc9 := Aside0.mk hc9
      clear h9 hc9
      by_cases hcl : a0[n].toNat < 128
      · have hcl' : decide ((128 : Int) ≤ (a0[n].toNat : Int)) = false := by simp; omega
        have HQ : Aside0 (vRead a0 = (v + a0[n].toNat * 128 ^ n, n + 1, 0)) := ⟨by rw [← HS.out, if_pos hcl]⟩
        have HM : Aside0 (a0[n].toNat % 128 = a0[n].toNat) := ⟨Nat.mod_eq_of_lt hcl⟩
        clear hcl
        cases hb9 : ((n : Int) == 9)
        · go_wp2
          simp only [Exit.jump]
          go_ret3
          refine ⟨?_, hdr⟩
          obtain ⟨e1, e2, e3⟩ := HE.out
          rw [HQ.out] at e1 e2 e3
          subst e1 e2 e3
          have := HO.out
          rw [HM.out] at this
          rw [this]
          rfl
        · have hc9 := Hc9.out hb9
          go_wp2
          simp only [Exit.jump]
          go_ret3
          refine ⟨?_, hdr⟩
          obtain ⟨e1, e2, e3⟩ := HE.out
          rw [HQ.out] at e1 e2 e3
          subst e1 e2 e3
          have := HO.out
          rw [HM.out] at this
          rw [this]
          rfl
      · have hcl' : decide ((128 : Int) ≤ (a0[n].toNat : Int)) = true := by simp; omega
        have hb9 : ((n : Int) == 9) = false := by have := (HVB.out (by omega)).1; simp; omega
        have HN : Aside0 (n < 9 ∧ v + a0[n].toNat % 128 * 128 ^ n < 128 ^ (n + 1)) := ⟨HVB.out (by omega)⟩
        have HT : Aside0 (readS ((ns a0).drop (n + 1)) (n + 1) (v + (a0[n].toNat % 128) * 128 ^ n) = vRead a0) := ⟨by rw [← HS.out, if_neg hcl]⟩
        clear hcl
        go_wp2
        go_step3
        rw [HO.out]
        refine ⟨rfl, ⟨n + 1, _, _, _, _, _, _, _, _, _, _, _, _, _, _, _, _, _, _, _, _, _, _, _, _, _, _, _, _, _, by rfl, ⟨by have := HN.out.1; omega, by omega, HN.out.2, HT.out, hdr⟩⟩, ?_⟩
        have := HN.out.1
        simp
        omega
  · have hb0 : ((n : Int) == (a0.size : Int)) = true := by simp; omega
    have HQ : Aside0 (vRead a0 = (0, 0, 1)) := ⟨by rw [← HV.out.2, ns_drop_end _ _ hge, readS]⟩
    go_wp2
    simp only [Exit.jump]
    go_ret3
    obtain ⟨e1, e2, e3⟩ := HE.out
    rw [HQ.out] at e1 e2 e3
    subst e1 e2 e3
    exact ⟨rfl, hdr⟩

end Go.Proofs.Ytohddbiedabmhaa.X
