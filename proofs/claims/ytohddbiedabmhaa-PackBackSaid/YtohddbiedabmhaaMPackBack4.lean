import Derived.Test.YtohddbiedabmhaaMPackBack0
import Derived.ScopeJumps
import Derived.WalkMore
-- by xprint.py, a program of this session, over the kit's print.py
namespace Go.Proofs.Ytohddbiedabmhaa.X
open Go.RowKit Go.Proofs.YtohddbiedabmhaaW.PrintWords Go.Proofs.YtohddbiedabmhaaW.PrintLast Go.Proofs.YtohddbiedabmhaaW.PrintMore
attribute [local go_sem] max2_int min2_int max_two min_two max_three min_three max_four min_four   -- for this text's walks alone
set_option linter.unusedVariables false
set_option linter.unusedSimpArgs false

def varint_Read.f (a0 : ByteArray) : Option (Int × Int × Int) := some ((vRead a0).1, (vRead a0).2.1, (vRead a0).2.2)
structure varint_Read.J (s : ByteArray) (r : Nat × Nat × Nat) (w : World) (n v : Nat) (w' : World) : Prop where
  n9 : n ≤ 9
  nle : n ≤ s.size
  vlt : v < 128 ^ n
  eq : readS ((ns s).drop n) n v = r
  dr : Drawn0 w w'
def varint_Read.Rel (s : ByteArray) (w : World) (a' : Act) (w' : World) : Prop := ∃ (n v : Nat) (u7 u8 u9 u10 u11 u12 u13 u14 u15 u16 u17 u18 u19 u20 u21 u22 u23 u24 u25 u26 u27 u28 u29 u30 u31 u32 u33 u34 : Value),
    a' = { tmps := #[.string s, undef, .int .u64 0, .int .i64 0, .int .i64 0, .int .u64 v, .int .i64 n, u7, u8, u9, u10, u11, u12, u13, u14, u15, u16, u17, u18, u19, u20, u21, u22, u23, u24, u25, u26, u27, u28, u29, u30, u31, u32, u33, u34], defers := [] } ∧ varint_Read.J s (vRead s) w n v w'
set_option maxHeartbeats 8000000 in
set_option maxRecDepth 100000 in
theorem varint_Read.calls (a0 : ByteArray) (r1 r2 r3 : Int) (w : World) (h : varint_Read.f a0 = some (r1, r2, r3)) :
    Calls Try.prog 13 #[.string a0] w fun e w' => e = .returned (.tuple #[.int .u64 r1, .int .i64 r2, .int .i64 r3]) ∧ Drawn0 w w' := by
  have HE : Aside0 (((vRead a0).1 : Int) = r1 ∧ ((vRead a0).2.1 : Int) = r2 ∧ ((vRead a0).2.2 : Int) = r3) := by
    unfold varint_Read.f at h
    simp only [Option.some.injEq, Prod.mk.injEq] at h
    exact ⟨h⟩
  clear h
  go_enter Try.func13, Try.ntmps13
  go_wp2
  refine wp_scope_pre 0 (varint_Read.Rel a0 w) (fun a' _ => match a'.tmps.getD 6 undef with | .int _ q => 10 - q.toNat | _ => 0) rfl ?_ ?_
  · intro K hK
    have HK := Aside0.mk hK
    clear hK
    go_wp2
    refine HK.out _ _ ⟨0, 0, _, _, _, _, _, _, _, _, _, _, _, _, _, _, _, _, _, _, _, _, _, _, _, _, _, _, _, _, rfl, ⟨by omega, by omega, by decide, rfl, Drawn0.refl _⟩⟩
  rintro a' w' ⟨n, v, u7, u8, u9, u10, u11, u12, u13, u14, u15, u16, u17, u18, u19, u20, u21, u22, u23, u24, u25, u26, u27, u28, u29, u30, u31, u32, u33, u34, rfl, hJ⟩
  have hn9 := hJ.n9
  have hdr := hJ.dr
  have HJ : Aside0 (varint_Read.J a0 (vRead a0) w n v w') := ⟨hJ⟩
  have HV : Aside0 (v < 128 ^ n ∧ readS ((ns a0).drop n) n v = vRead a0) := ⟨hJ.vlt, hJ.eq⟩
  have hnle := hJ.nle
  clear hJ
  rcases Nat.lt_or_ge n a0.size with hlt | hge
  · have hb0 : ((n : Int) == (a0.size : Int)) = false := by simp; omega
    have h7 : 0 ≤ 7 * (n : Int) := by omega
    have hw7 : wrap64 (7 * (n : Int)) = 7 * (n : Int) := by unfold wrap64; omega
    have HR : Aside0 (readS ((ns a0).drop n) n v = vRead a0) := ⟨HV.out.2⟩
    have hcons := ns_drop a0 n hlt
    have HR : Aside0 (readS (a0[n].toNat :: (ns a0).drop (n + 1)) n v = vRead a0) := ⟨hcons ▸ HV.out.2⟩
    clear hcons
    by_cases h9 : n = 9 ∧ 1 < a0[n].toNat
    · obtain ⟨h9, hc⟩ := h9
      have hb9 : ((n : Int) == 9) = true := by simp; omega
      have HQ : Aside0 (vRead a0 = (0, 0, 2)) := ⟨by rw [← HR.out, readS, if_pos ⟨h9, hc⟩]⟩
      have hc' : decide ((1 : Int) < (a0[n].toNat : Int)) = true := by simp; omega
      clear h9 hc
      go_wp2
      simp only [Exit.jump]
      go_ret3
      obtain ⟨e1, e2, e3⟩ := HE.out
      rw [HQ.out] at e1 e2 e3
      subst e1 e2 e3
      exact ⟨rfl, hdr⟩
    · have HO := Aside0.mk (or_step v a0[n].toNat n HV.out.1 hn9 (by omega))
      have HS : Aside0 ((if a0[n].toNat < 128 then (v + a0[n].toNat * 128 ^ n, n + 1, 0) else readS ((ns a0).drop (n + 1)) (n + 1) (v + (a0[n].toNat % 128) * 128 ^ n)) = vRead a0) := ⟨by rw [← readS_cons (by omega)]; exact HR.out⟩
      have hc9 : ((n : Int) == 9) = true → decide ((1 : Int) < (a0[n].toNat : Int)) = false := by simp; omega
      have HVB : Aside0 (a0[n].toNat ≥ 128 → n < 9 ∧ v + a0[n].toNat % 128 * 128 ^ n < 128 ^ (n + 1)) := ⟨fun hge => by
        have := HV.out.1
        refine ⟨by omega, ?_⟩
        have h1 : a0[n].toNat % 128 * 128 ^ n ≤ 127 * 128 ^ n := Nat.mul_le_mul_right _ (by omega)
        rw [Nat.pow_succ]; omega⟩
      have Hc9 := Aside0.mk hc9
      clear h9 hc9
      by_cases hcl : a0[n].toNat < 128
      · have hcl' : decide ((128 : Int) ≤ (a0[n].toNat : Int)) = false := by simp; omega
        have HQ : Aside0 (vRead a0 = (v + a0[n].toNat * 128 ^ n, n + 1, 0)) := ⟨by rw [← HS.out, if_pos hcl]⟩
        have HM : Aside0 (a0[n].toNat % 128 = a0[n].toNat) := ⟨Nat.mod_eq_of_lt hcl⟩
        clear hcl
        cases hb9 : ((n : Int) == 9)
        · go_wp2
          simp only [Exit.jump]
          go_ret3
          refine ⟨?_, hdr⟩
          obtain ⟨e1, e2, e3⟩ := HE.out
          rw [HQ.out] at e1 e2 e3
          subst e1 e2 e3
          have := HO.out
          rw [HM.out] at this
          rw [this]
          rfl
        · have hc9 := Hc9.out hb9
          go_wp2
          simp only [Exit.jump]
          go_ret3
          refine ⟨?_, hdr⟩
          obtain ⟨e1, e2, e3⟩ := HE.out
          rw [HQ.out] at e1 e2 e3
          subst e1 e2 e3
          have := HO.out
          rw [HM.out] at this
          rw [this]
          rfl
      · have hcl' : decide ((128 : Int) ≤ (a0[n].toNat : Int)) = true := by simp; omega
        have hb9 : ((n : Int) == 9) = false := by have := (HVB.out (by omega)).1; simp; omega
        have HN : Aside0 (n < 9 ∧ v + a0[n].toNat % 128 * 128 ^ n < 128 ^ (n + 1)) := ⟨HVB.out (by omega)⟩
        have HT : Aside0 (readS ((ns a0).drop (n + 1)) (n + 1) (v + (a0[n].toNat % 128) * 128 ^ n) = vRead a0) := ⟨by rw [← HS.out, if_neg hcl]⟩
        clear hcl
        go_wp2
        go_step3
        rw [HO.out]
        refine ⟨rfl, ⟨n + 1, _, _, _, _, _, _, _, _, _, _, _, _, _, _, _, _, _, _, _, _, _, _, _, _, _, _, _, _, _, by rfl, ⟨by have := HN.out.1; omega, by omega, HN.out.2, HT.out, hdr⟩⟩, ?_⟩
        have := HN.out.1
        simp
        omega
  · have hb0 : ((n : Int) == (a0.size : Int)) = true := by simp; omega
    have HQ : Aside0 (vRead a0 = (0, 0, 1)) := ⟨by rw [← HV.out.2, ns_drop_end _ _ hge, readS]⟩
    go_wp2
    simp only [Exit.jump]
    go_ret3
    obtain ⟨e1, e2, e3⟩ := HE.out
    rw [HQ.out] at e1 e2 e3
    subst e1 e2 e3
    exact ⟨rfl, hdr⟩

end Go.Proofs.Ytohddbiedabmhaa.X
-- by xprint.py, a program of this session, over the kit's print.py
namespace Go.Proofs.Ytohddbiedabmhaa.X
open Go.RowKit Go.Proofs.YtohddbiedabmhaaW.PrintWords Go.Proofs.YtohddbiedabmhaaW.PrintLast Go.Proofs.YtohddbiedabmhaaW.PrintMore
attribute [local go_sem] max2_int min2_int max_two min_two max_three min_three max_four min_four   -- for this text's walks alone
set_option linter.unusedVariables false
set_option linter.unusedSimpArgs false

/-! ### agatelaw01_Awake: function 11 -/
def agatelaw01_Awake.f  : Option (Bool) := (varint_Read.f (⟨#[172, 2, 120]⟩ : ByteArray)).bind fun bt101 => ((varint_Put.f 300).bind fun t104 => (if t104.toList = ([172, 2] : List UInt8) then (if bt101.1 = 300 then (if bt101.2.1 = 2 then (some (bt101.2.2 == 0)) else (some false)) else (some false)) else (some false)))
set_option maxHeartbeats 8000000 in
set_option maxRecDepth 100000 in
theorem agatelaw01_Awake.calls  (r : Bool) (w : World) (h : agatelaw01_Awake.f  = some r) :
    Calls Try.prog 11 #[] w fun e w' => e = .returned (.bool r) ∧ Below w.heap.size w w' := by
  have HB := Aside0.mk (Below.refl w.heap.size w)
  have H : ((varint_Read.f (⟨#[172, 2, 120]⟩ : ByteArray)).bind fun bt101 => ((varint_Put.f 300).bind fun t104 => (if t104.toList = ([172, 2] : List UInt8) then (if bt101.1 = 300 then (if bt101.2.1 = 2 then (some (bt101.2.2 == 0)) else (some false)) else (some false)) else (some false)))) = some r := h
  clear h
  replace H := Option.bind_eq_some_iff.mp H
  obtain ⟨⟨t101, t102, t103⟩, A10, H⟩ := H
  replace H : ((varint_Put.f 300).bind fun t104 => (if t104.toList = ([172, 2] : List UInt8) then (if t101 = 300 then (if t102 = 2 then (some (t103 == 0)) else (some false)) else (some false)) else (some false))) = some r := H
  have A1 := Aside0.mk A10
  clear A10
  replace H := Option.bind_eq_some_iff.mp H
  obtain ⟨t104, A20, H⟩ := H
  replace H : (if t104.toList = ([172, 2] : List UInt8) then (if t101 = 300 then (if t102 = 2 then (some (t103 == 0)) else (some false)) else (some false)) else (some false)) = some r := H
  have A2 := Aside0.mk A20
  clear A20
  by_cases c3 : t104.toList = ([172, 2] : List UInt8)
  · rw [if_pos c3] at H
    have c3b0 : (t104.toList == ([172, 2] : List UInt8)) = true := beq_iff_eq.mpr c3
    have c3b1 : (t104.toList != ([172, 2] : List UInt8)) = false := bne_eq_false_iff_eq.mpr c3
    clear c3
    by_cases c4 : t101 = 300
    · rw [if_pos c4] at H
      have c4b0 : (t101 == 300) = true := beq_iff_eq.mpr c4
      have c4b1 : (t101 != 300) = false := bne_eq_false_iff_eq.mpr c4
      clear c4
      by_cases c5 : t102 = 2
      · rw [if_pos c5] at H
        have c5b0 : (t102 == 2) = true := beq_iff_eq.mpr c5
        have c5b1 : (t102 != 2) = false := bne_eq_false_iff_eq.mpr c5
        clear c5
        obtain rfl := Option.some.inj H
        go_enter Try.func11, Try.ntmps11
        go_wp2_with (first | ((with_reducible refine gate_callee (f := 13) rfl ?_); refine goesL_ (some 5) rfl rfl Try.func13 (by kernel_rfl) rfl #[.string (⟨#[172, 2, 120]⟩ : ByteArray)] rfl (by (try simp only [List.map_toArray, List.map_cons, List.map_nil]); first | done | rfl | (simp only [List.length_drop, List.length_take]; rfl)) ?_; (with_reducible refine (varint_Read.calls (⟨#[172, 2, 120]⟩ : ByteArray) t101 t102 t103 _ A1.out).mono ?_); rintro e w' ⟨rfl, ⟨nd, rfl⟩⟩; refine ⟨_, rfl, ?_⟩) | ((with_reducible refine gate_callee (f := 15) rfl ?_); refine goesL_ (some 9) rfl rfl Try.func15 (by kernel_rfl) rfl #[.int .u64 300] rfl (by (try simp only [List.map_toArray, List.map_cons, List.map_nil]); first | done | rfl | (simp only [List.length_drop, List.length_take]; rfl)) ?_; (with_reducible refine (varint_Put.calls 300 t104 _ A2.out).mono ?_); rintro e w6 ⟨rfl, hb⟩; refine ⟨_, rfl, ?_⟩; have n0_ := Aside0.mk (below_step (by repeat (first | (with_reducible first | exact HB.out | apply below_alloc | apply pw_below_drewN | apply below_drew1) | exact HB.out)) hb); clear HB; have HB := n0_; clear n0_; (try clear hb); (try clear hb2); (try clear hk); (try clear hi)))
        go_ret
        exact ⟨by first | rfl | (simp [errW_none, errW_some] <;> rfl) | (simp [*, errW_none, errW_some] <;> rfl), by repeat (first | (with_reducible first | exact HB.out | apply below_alloc | apply pw_below_drewN | apply below_drew1) | exact HB.out)⟩
      · rw [if_neg c5] at H
        have c5b0 : (t102 == 2) = false := beq_eq_false_iff_ne.mpr c5
        have c5b1 : (t102 != 2) = true := bne_iff_ne.mpr c5
        obtain rfl := Option.some.inj H
        go_enter Try.func11, Try.ntmps11
        go_wp2_with (first | ((with_reducible refine gate_callee (f := 13) rfl ?_); refine goesL_ (some 5) rfl rfl Try.func13 (by kernel_rfl) rfl #[.string (⟨#[172, 2, 120]⟩ : ByteArray)] rfl (by (try simp only [List.map_toArray, List.map_cons, List.map_nil]); first | done | rfl | (simp only [List.length_drop, List.length_take]; rfl)) ?_; (with_reducible refine (varint_Read.calls (⟨#[172, 2, 120]⟩ : ByteArray) t101 t102 t103 _ A1.out).mono ?_); rintro e w' ⟨rfl, ⟨nd, rfl⟩⟩; refine ⟨_, rfl, ?_⟩) | ((with_reducible refine gate_callee (f := 15) rfl ?_); refine goesL_ (some 9) rfl rfl Try.func15 (by kernel_rfl) rfl #[.int .u64 300] rfl (by (try simp only [List.map_toArray, List.map_cons, List.map_nil]); first | done | rfl | (simp only [List.length_drop, List.length_take]; rfl)) ?_; (with_reducible refine (varint_Put.calls 300 t104 _ A2.out).mono ?_); rintro e w7 ⟨rfl, hb⟩; refine ⟨_, rfl, ?_⟩; have n0_ := Aside0.mk (below_step (by repeat (first | (with_reducible first | exact HB.out | apply below_alloc | apply pw_below_drewN | apply below_drew1) | exact HB.out)) hb); clear HB; have HB := n0_; clear n0_; (try clear hb); (try clear hb2); (try clear hk); (try clear hi)))
        go_ret
        exact ⟨by first | rfl | (simp [errW_none, errW_some] <;> rfl) | (simp [*, errW_none, errW_some] <;> rfl), by repeat (first | (with_reducible first | exact HB.out | apply below_alloc | apply pw_below_drewN | apply below_drew1) | exact HB.out)⟩
    · rw [if_neg c4] at H
      have c4b0 : (t101 == 300) = false := beq_eq_false_iff_ne.mpr c4
      have c4b1 : (t101 != 300) = true := bne_iff_ne.mpr c4
      obtain rfl := Option.some.inj H
      go_enter Try.func11, Try.ntmps11
      go_wp2_with (first | ((with_reducible refine gate_callee (f := 13) rfl ?_); refine goesL_ (some 5) rfl rfl Try.func13 (by kernel_rfl) rfl #[.string (⟨#[172, 2, 120]⟩ : ByteArray)] rfl (by (try simp only [List.map_toArray, List.map_cons, List.map_nil]); first | done | rfl | (simp only [List.length_drop, List.length_take]; rfl)) ?_; (with_reducible refine (varint_Read.calls (⟨#[172, 2, 120]⟩ : ByteArray) t101 t102 t103 _ A1.out).mono ?_); rintro e w' ⟨rfl, ⟨nd, rfl⟩⟩; refine ⟨_, rfl, ?_⟩) | ((with_reducible refine gate_callee (f := 15) rfl ?_); refine goesL_ (some 9) rfl rfl Try.func15 (by kernel_rfl) rfl #[.int .u64 300] rfl (by (try simp only [List.map_toArray, List.map_cons, List.map_nil]); first | done | rfl | (simp only [List.length_drop, List.length_take]; rfl)) ?_; (with_reducible refine (varint_Put.calls 300 t104 _ A2.out).mono ?_); rintro e w8 ⟨rfl, hb⟩; refine ⟨_, rfl, ?_⟩; have n0_ := Aside0.mk (below_step (by repeat (first | (with_reducible first | exact HB.out | apply below_alloc | apply pw_below_drewN | apply below_drew1) | exact HB.out)) hb); clear HB; have HB := n0_; clear n0_; (try clear hb); (try clear hb2); (try clear hk); (try clear hi)))
      go_ret
      exact ⟨by first | rfl | (simp [errW_none, errW_some] <;> rfl) | (simp [*, errW_none, errW_some] <;> rfl), by repeat (first | (with_reducible first | exact HB.out | apply below_alloc | apply pw_below_drewN | apply below_drew1) | exact HB.out)⟩
  · rw [if_neg c3] at H
    have c3b0 : (t104.toList == ([172, 2] : List UInt8)) = false := beq_eq_false_iff_ne.mpr c3
    have c3b1 : (t104.toList != ([172, 2] : List UInt8)) = true := bne_iff_ne.mpr c3
    obtain rfl := Option.some.inj H
    go_enter Try.func11, Try.ntmps11
    go_wp2_with (first | ((with_reducible refine gate_callee (f := 13) rfl ?_); refine goesL_ (some 5) rfl rfl Try.func13 (by kernel_rfl) rfl #[.string (⟨#[172, 2, 120]⟩ : ByteArray)] rfl (by (try simp only [List.map_toArray, List.map_cons, List.map_nil]); first | done | rfl | (simp only [List.length_drop, List.length_take]; rfl)) ?_; (with_reducible refine (varint_Read.calls (⟨#[172, 2, 120]⟩ : ByteArray) t101 t102 t103 _ A1.out).mono ?_); rintro e w' ⟨rfl, ⟨nd, rfl⟩⟩; refine ⟨_, rfl, ?_⟩) | ((with_reducible refine gate_callee (f := 15) rfl ?_); refine goesL_ (some 9) rfl rfl Try.func15 (by kernel_rfl) rfl #[.int .u64 300] rfl (by (try simp only [List.map_toArray, List.map_cons, List.map_nil]); first | done | rfl | (simp only [List.length_drop, List.length_take]; rfl)) ?_; (with_reducible refine (varint_Put.calls 300 t104 _ A2.out).mono ?_); rintro e w9 ⟨rfl, hb⟩; refine ⟨_, rfl, ?_⟩; have n0_ := Aside0.mk (below_step (by repeat (first | (with_reducible first | exact HB.out | apply below_alloc | apply pw_below_drewN | apply below_drew1) | exact HB.out)) hb); clear HB; have HB := n0_; clear n0_; (try clear hb); (try clear hb2); (try clear hk); (try clear hi)))
    go_ret
    exact ⟨by first | rfl | (simp [errW_none, errW_some] <;> rfl) | (simp [*, errW_none, errW_some] <;> rfl), by repeat (first | (with_reducible first | exact HB.out | apply below_alloc | apply pw_below_drewN | apply below_drew1) | exact HB.out)⟩

end Go.Proofs.Ytohddbiedabmhaa.X
-- by xprint.py, a program of this session, over the kit's print.py
namespace Go.Proofs.Ytohddbiedabmhaa.X
open Go.RowKit Go.Proofs.YtohddbiedabmhaaW.PrintWords Go.Proofs.YtohddbiedabmhaaW.PrintLast Go.Proofs.YtohddbiedabmhaaW.PrintMore
attribute [local go_sem] max2_int min2_int max_two min_two max_three min_three max_four min_four   -- for this text's walks alone
set_option linter.unusedVariables false
set_option linter.unusedSimpArgs false

def agatelaw01_Awake_s.f : Option Bool := some true
theorem agatelaw01_Awake_s.ev (r) (h : agatelaw01_Awake_s.f = some r) : ∃ k : Nat, agatelaw01_Awake.f = some r := by
  refine ⟨0, ?_⟩
  rw [← h]
  have h1 : varint_Read.f ⟨#[172, 2, 120]⟩ = some (300, 2, 0) := by
    have : vRead ⟨#[172, 2, 120]⟩ = (300, 2, 0) := by decide
    unfold varint_Read.f; rw [this]; rfl
  have h2 : varint_Put.f 300 = some ⟨#[172, 2]⟩ := by
    unfold varint_Put.f
    rw [if_pos (by decide)]
    have : vStr (300 : Int).toNat = ⟨#[172, 2]⟩ := by
      show strOfNums ((vPut 300).map Int.ofNat) = _
      rw [vPut_ge (by decide), vPut_lt (by decide)]; rfl
    rw [this]
  unfold agatelaw01_Awake.f agatelaw01_Awake_s.f
  rw [h1, h2]
  simp only [Option.bind_some]
  rw [if_pos (by rw [ByteArray.toList_eq])]
  rfl

set_option maxHeartbeats 1000000 in
theorem agatelaw01_Awake_s.calls  (r : Bool) (w : World) (h : agatelaw01_Awake_s.f  = some r) :
    Calls Try.prog 11 #[] w fun e w' => e = .returned (.bool r) ∧ Below w.heap.size w w' := by
  obtain ⟨k, hk⟩ := agatelaw01_Awake_s.ev  _ h
  exact agatelaw01_Awake.calls r w hk

end Go.Proofs.Ytohddbiedabmhaa.X
-- by xprint.py, a program of this session, over the kit's print.py
namespace Go.Proofs.Ytohddbiedabmhaa.X
open Go.RowKit Go.Proofs.YtohddbiedabmhaaW.PrintWords Go.Proofs.YtohddbiedabmhaaW.PrintLast Go.Proofs.YtohddbiedabmhaaW.PrintMore
attribute [local go_sem] max2_int min2_int max_two min_two max_three min_three max_four min_four   -- for this text's walks alone
set_option linter.unusedVariables false
set_option linter.unusedSimpArgs false

/-! ### wire_fixed: function 50 -/
def wire_fixed.l0 : Nat → ByteArray → Int → Int → Int → Option (Int)
  | 0, _, _, _, _ => none
  | k + 1, x0, x3, x6, x7 => if x7 < x6 then (if 0 ≤ x7 then (if x7 < (x0.size : Int) then (if 0 ≤ (wrap64 (8 * x7)) then (wire_fixed.l0 k x0 (Go.bits .or .u64 x3 (shl .u64 (IntKind.u64.wrap (bt x0 x7)) (wrap64 (8 * x7)))) x6 (wrap64 (x7 + 1))) else (none)) else (none)) else (none)) else (some x3)
def wire_fixed.f (k : Nat) (a0 : ByteArray) : Option (Int) := wire_fixed.l0 k a0 0 (a0.size : Int) 0
theorem wire_fixed.mono_l : ∀ k, (∀ y0 y1 y2 y3, LeO (wire_fixed.l0 k y0 y1 y2 y3) (wire_fixed.l0 (k + 1) y0 y1 y2 y3))
  | 0 => fun _ _ _ _ r h => by simp [wire_fixed.l0] at h
  | k + 1 => by
    have ih0 := wire_fixed.mono_l k
    · intro y0 y1 y2 y3
      unfold wire_fixed.l0
      repeat' first
      | (with_reducible exact ih0 _ _ _ _)
      | (with_reducible exact LeO.refl _)
      | (with_reducible exact LeO.none _)
      | (with_reducible refine LeO.ite ?_ ?_)
      | (with_reducible refine LeO.bind ?_ (fun _ => ?_))
      | exact ih0 _ _ _ _
      | exact LeO.none _
      | refine LeO.ite ?_ ?_
      | refine LeO.bind ?_ (fun _ => ?_)
theorem wire_fixed.mono : ∀ a0 k, LeO (wire_fixed.f k a0) (wire_fixed.f (k + 1) a0) := by
  intro a0 k
  have ih0 := wire_fixed.mono_l k
  unfold wire_fixed.f
  repeat' first
      | (with_reducible exact ih0 _ _ _ _)
      | (with_reducible exact LeO.refl _)
      | (with_reducible exact LeO.none _)
      | (with_reducible refine LeO.ite ?_ ?_)
      | (with_reducible refine LeO.bind ?_ (fun _ => ?_))
      | exact ih0 _ _ _ _
      | exact LeO.none _
      | refine LeO.ite ?_ ?_
      | refine LeO.bind ?_ (fun _ => ?_)
set_option maxHeartbeats 8000000 in
set_option maxRecDepth 100000 in
theorem wire_fixed.calls (k : Nat) (a0 : ByteArray) (r : Int) (w : World) (h : wire_fixed.f k a0 = some r) :
    Calls Try.prog 50 #[.string a0] w fun e w' => e = .returned (.int .u64 r) ∧ Drawn0 w w' := by
  have H : (wire_fixed.l0 k a0 0 (a0.size : Int) 0) = some r := h
  clear h
  have H' := Aside0.mk H
  clear H
  go_enter Try.func50, Try.ntmps50
  go_wp2
  go_loopg [3, 7] k (fun kq v3 v7 w' => ∃ (x3_1 : Int) (x7_1 : Int), v3 = .int .u64 x3_1 ∧ v7 = .int .i64 x7_1 ∧ Aside0 (wire_fixed.l0 kq a0 x3_1 (a0.size : Int) x7_1 = some r) ∧ Aside0 (kq ≤ k) ∧ Drawn0 w w')
  case atStart => exact ⟨(0), (0), (by first | rfl | (simp; done) | (simp [*]; done)), (by first | rfl | (simp; done) | (simp [*]; done)), H', ⟨Nat.le_refl _⟩, by repeat (first | exact Drawn0.refl _ | apply Drawn0.step)⟩
  case round =>
    clear H'
    obtain ⟨x3_1, x7_1, rfl, rfl, HA, HK1, ⟨m1, rfl⟩⟩ := hrel
    cases gk with
    | zero => exact absurd HA.out (by simp [wire_fixed.l0])
    | succ k1 =>
      have H := HA.out
      clear HA
      simp only [wire_fixed.l0] at H
      by_cases c2 : x7_1 < (a0.size : Int)
      · rw [if_pos c2] at H
        have c2b0 : decide (x7_1 < (a0.size : Int)) = true := decide_eq_true c2
        clear c2
        by_cases c3 : 0 ≤ x7_1
        · rw [if_pos c3] at H
          have c3b0 : decide (0 ≤ x7_1) = true := decide_eq_true c3
          clear c3
          by_cases c4 : x7_1 < (a0.size : Int)
          · rw [if_pos c4] at H
            have c4b0 : decide (x7_1 < (a0.size : Int)) = true := decide_eq_true c4
            clear c4
            obtain ⟨ji6, hji6⟩ : ∃ j_ : Int, (wrap64 (8 * x7_1)) = j_ := ⟨_, rfl⟩
            replace H : (if 0 ≤ (ji6) then (wire_fixed.l0 k1 a0 (Go.bits .or .u64 x3_1 (shl .u64 (IntKind.u64.wrap (bt a0 x7_1)) (ji6))) (a0.size : Int) (wrap64 (x7_1 + 1))) else (none)) = some r := by first | (rw [hji6] at H; exact H) | (simp only [hji6] at H ⊢; exact H)
            have hji6w : (IntKind.i64.wrap (8 * x7_1)) = ji6 := (i64_w _).trans hji6
            by_cases c7 : 0 ≤ (ji6)
            · rw [if_pos c7] at H
              have c7b0 := eq_true c7
              have c7b1 : decide (0 ≤ (ji6)) = true := decide_eq_true c7
              clear c7
              obtain ⟨ji8, hji8⟩ : ∃ j_ : Int, (shl .u64 (IntKind.u64.wrap (bt a0 x7_1)) (ji6)) = j_ := ⟨_, rfl⟩
              replace H : (wire_fixed.l0 k1 a0 (Go.bits .or .u64 x3_1 (ji8)) (a0.size : Int) (wrap64 (x7_1 + 1))) = some r := by first | (rw [hji8] at H; exact H) | (simp only [hji8] at H ⊢; exact H)
              have hji8_ : (IntKind.u64.wrap ((IntKind.u64.wrap (bt a0 x7_1)) * 2 ^ min (ji6).toNat 64)) = ji8 := hji8
              have hji8z : (ji6) ≤ 64 → (IntKind.u64.wrap ((IntKind.u64.wrap (bt a0 x7_1)) * 2 ^ (ji6).toNat)) = ji8 := shl_small hji8
              have H' := Aside0.mk H
              clear H
              have p5 : 0 ≤ (x7_1 : Int) := of_decide_eq_true (by first | (with_reducible assumption) | assumption)
              have q5 : x7_1 < (a0.size : Int) := of_decide_eq_true (by first | (with_reducible assumption) | assumption)
              have hx5 := bt_at a0 x7_1
              replace p5 := eq_true p5
              replace q5 := eq_true q5
              go_wp2
              go_roundg k1
              case measure => have := HK1.out; omega
              case rel => exact ⟨(Go.bits .or .u64 x3_1 (ji8)), (wrap64 (x7_1 + 1)), (by first | rfl | (simp; done) | (simp only [← hji8] <;> (first | rfl | simp)) | (simp [*]; done)), (by first | rfl | (simp; done) | (simp [*]; done)), H', ⟨by have := HK1.out; omega⟩, by repeat (first | exact Drawn0.refl _ | apply Drawn0.step)⟩
            · rw [if_neg c7] at H
              exact absurd H (by simp)
          · rw [if_neg c4] at H
            exact absurd H (by simp)
        · rw [if_neg c3] at H
          exact absurd H (by simp)
      · rw [if_neg c2] at H
        have c2b0 : decide (x7_1 < (a0.size : Int)) = false := decide_eq_false c2
        clear c2
        obtain rfl := Option.some.inj H
        go_wp2
        go_ret
        exact ⟨by first | rfl | (simp; done) | (simp [*]; done), by repeat (first | exact Drawn0.refl _ | apply Drawn0.step)⟩

end Go.Proofs.Ytohddbiedabmhaa.X
