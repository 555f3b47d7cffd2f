import Derived.Test.YtgmggompdidcoaaDoorMStoreReads2
import Derived.Test.YtgmggompdidcoaaDoorMStoreReads8
import Derived.Test.YtgmggompdidcoaaDoorMStoreReads7
import Derived.Shelf.SlIter.Nil
import Derived.Shelf.SortM.Plain
import Derived.Shelf.SortM.SortNone
import Derived.RangeFuncNested
import Derived.StringKeys
import Derived.Maps.Own
namespace Go.Proofs.YtgmggompdidcoaaDoor.X
open Go.RowKit Go.Proofs.YtgmggompdidcoaaDoorW.PrintWords Go.Proofs.YtgmggompdidcoaaDoorW.PrintLast Go.Proofs.YtgmggompdidcoaaDoorW.PrintMore
attribute [local go_sem] max2_int min2_int max_two min_two max_three min_three max_four min_four
set_option linter.unusedVariables false
set_option linter.unusedSimpArgs false
def stRead (l : List (ByteArray × ByteArray)) (key : ByteArray) (off len : Int) : ByteArray × Int :=
  if keyB key = true then (if off < 0 ∨ len < 0 then (⟨#[]⟩, 17) else match getL l key with
    | none => (⟨#[]⟩, 18)
    | some b => if off > b.size ∨ len > b.size - off then (⟨#[]⟩, 1) else (b.extract off.toNat (off + len).toNat, 0)) else (⟨#[]⟩, 9)
def ReadPost (w : World) (r : ByteArray × Int) (e : Ending) (w' : World) : Prop := e = .returned (.tuple #[.string r.1, .int .i64 r.2]) ∧ Below w.heap.size w w'
set_option maxHeartbeats 8000000 in
set_option maxRecDepth 100000 in
theorem Read_any (m : Option Nat) (l : List (ByteArray × ByteArray)) (key : ByteArray) (off len : Int) (w : World) (hm : StrMap w m l) (hkey : key.size ≤ 140737488351232) (hd : ∀ b, getL l key = some b → b.size ≤ 140737488351232) (ho : -9223372036854775808 ≤ off ∧ off < 9223372036854775808) (hl : -9223372036854775808 ≤ len ∧ len < 9223372036854775808) :
    Calls Tryd.prog 8 #[.agg #[.map m], .string key, .int .i64 off, .int .i64 len] w (ReadPost w (stRead l key off len)) := by
  have hu := Tryd.underlying30
  have HM := Aside0.mk hm
  have HB := Aside0.mk (Below.refl w.heap.size w)
  have HC := Aside0.mk (Key_any key hkey)
  have HD := Aside0.mk hd
  have HO := Aside0.mk ho
  have HL := Aside0.mk hl
  obtain ⟨kb, hkb⟩ : ∃ kb, keyB key = kb := ⟨_, rfl⟩
  rw [hkb] at HC
  have HR : Aside0 (stRead l key off len = (if kb = true then (if off < 0 ∨ len < 0 then (⟨#[]⟩, 17) else match getL l key with
    | none => (⟨#[]⟩, 18)
    | some b => if off > b.size ∨ len > b.size - off then (⟨#[]⟩, 1) else (b.extract off.toNat (off + len).toNat, 0)) else (⟨#[]⟩, 9) : ByteArray × Int)) := ⟨by unfold stRead; rw [hkb]⟩
  generalize stRead l key off len = R at HR ⊢
  clear hm hkey hd ho hl hkb
  go_enter Tryd.func8, Tryd.ntmps8
  go_wp2_with (first | ((with_reducible refine gate_dst (N := 4) rfl ?_); refine boxE (N := 4) (cs := #[.map m]) (t := 30) ?_; intro gb4 hg w4 hbox hb; have BK4 := mk0 hbox; replace HB := hbS HB hb; replace HM := mk0 (HM.out.kept hb); clear hb hbox hg))
  refine (HC.out _).mono ?_
  rintro e w5 ⟨rfl, hb⟩
  replace BK4 := bkS BK4 hb; replace HM := mk0 (HM.out.kept hb); replace HB := hbS HB hb
  clear hb HC
  have hc4 := cz1 BK4
  cases kb with
  | false =>
    obtain rfl := HR.out
    go_wp2
    go_ret2
    exact ⟨rfl, HB.out⟩
  | true =>
    have HR1 := Aside0.mk (HR.out.trans (if_pos rfl))
    clear HR
    by_cases h0 : off < 0
    · obtain rfl := HR1.out.trans (if_pos (.inl h0))
      have b0 : decide (off < 0) = true := decide_eq_true h0
      clear h0 HR1
      go_wp2
      go_ret2
      exact ⟨rfl, HB.out⟩
    have b0 : decide (off < 0) = false := decide_eq_false h0
    by_cases h1 : len < 0
    · obtain rfl := HR1.out.trans (if_pos (.inr h1))
      have b1 : decide (len < 0) = true := decide_eq_true h1
      clear h1 HR1 h0
      go_wp2
      go_ret2
      exact ⟨rfl, HB.out⟩
    have b1 : decide (len < 0) = false := decide_eq_false h1
    have HR2 := Aside0.mk (HR1.out.trans (if_neg (fun h => h.elim h0 h1)))
    clear HR1
    have hlk := lookup_fl HM.out key
    cases hg : getL l key with
    | none =>
      rw [hg] at hlk
      obtain rfl := HR2.out.trans (by rw [hg])
      clear hg h0 h1 HR2
      go_wp2
      go_ret2
      exact ⟨rfl, HB.out⟩
    | some b =>
      rw [hg] at hlk
      have HR3 := Aside0.mk (HR2.out.trans (by rw [hg]))
      have hbs := HD.out b hg
      clear hg HR2
      by_cases h2 : off > (b.size : Int)
      · obtain rfl := HR3.out.trans (if_pos (.inl h2))
        have b2 : decide ((b.size : Int) < off) = true := decide_eq_true h2
        clear h0 h1 h2 HR3
        go_wp2
        go_ret2
        exact ⟨rfl, HB.out⟩
      have b2 : decide ((b.size : Int) < off) = false := decide_eq_false h2
      have hw : IntKind.i64.wrap ((b.size : Int) - off) = (b.size : Int) - off := by rw [i64_w]; exact wrap64_id (by omega) (by omega)
      have hw' : wrap64 ((b.size : Int) - off) = (b.size : Int) - off := wrap64_id (by omega) (by omega)
      by_cases h3 : len > (b.size : Int) - off
      · obtain rfl := HR3.out.trans (if_pos (.inr h3))
        have b3 : decide ((b.size : Int) - off < len) = true := decide_eq_true h3
        clear h0 h1 h2 h3 HR3
        go_wp2
        go_ret2
        exact ⟨rfl, HB.out⟩
      · obtain rfl := HR3.out.trans (if_neg (fun h => h.elim h2 h3))
        have b3 : decide ((b.size : Int) - off < len) = false := decide_eq_false h3
        obtain ⟨on, rfl⟩ : ∃ n : Nat, off = n := ⟨off.toNat, by omega⟩
        obtain ⟨ln, rfl⟩ : ∃ n : Nat, len = n := ⟨len.toNat, by omega⟩
        have hs1 : on ≤ b.size := by omega
        have hs2 : on + ln ≤ b.size := by omega
        have hs3 : (0 : Int) ≤ (on : Int) + (ln : Int) := by omega
        have hw2 : IntKind.i64.wrap ((on : Int) + (ln : Int)) = (on : Int) + (ln : Int) := by rw [i64_w]; unfold wrap64; omega
        have hs4 : (on : Int) + (ln : Int) ≤ (b.size : Int) := by omega
        have hs5 : (on : Int) ≤ (on : Int) + (ln : Int) := by omega
        have hs6 : ((on : Int) + (ln : Int)).toNat = on + ln := by omega
        clear h0 h1 h2 h3 HR3
        go_wp2
        go_ret2
        exact ⟨by rw [hs6]; rfl, HB.out⟩
def Sh.keysL_ren : Go.Shelf.Ren := ⟨fun | 7 => 14 | 10 => 20 | n => n, fun | 23 => 28 | 26 => 9 | 3 => 9 | 28 => 47 | 0 => 0 | 27 => 46 | 33 => 41 | 4 => 4 | n => n, fun | n => n⟩
theorem Sh.keysL : Go.Proofs.SlLaysZ.n7 Tryd.prog Sh.keysL_ren := {
  mixed := by kernel_rfl
  f7 := ⟨Tryd.f14.name, by decide, Tryd.func14.trans (congrArg some (by kernel_rfl))⟩
  f10 := ⟨Tryd.f20.name, by decide, Tryd.func20.trans (congrArg some (by kernel_rfl))⟩
  t0 := Tryd.underlying0
  a0 := Tryd.isAgg0
  z0 := Tryd.sizeOf0
  v0 := Tryd.zeroValue0
  t4 := Tryd.underlying4
  a4 := Tryd.isAgg4
  z4 := Tryd.sizeOf4
  v4 := Tryd.zeroValue4
  t23 := Tryd.underlying28
  a23 := Tryd.isAgg28
  z23 := Tryd.sizeOf28
  v23 := Tryd.zeroValue28
  t26 := Tryd.underlying9
  a26 := Tryd.isAgg9
  z26 := Tryd.sizeOf9
  v26 := Tryd.zeroValue9
  t27 := Tryd.underlying46
  a27 := Tryd.isAgg46
  z27 := Tryd.sizeOf46
  v27 := Tryd.zeroValue46
  t28 := Tryd.underlying47
  a28 := Tryd.isAgg47
  z28 := Tryd.sizeOf47
  v28 := Tryd.zeroValue47
  t33 := Tryd.underlying41
  a33 := Tryd.isAgg41
  z33 := Tryd.sizeOf41
  v33 := Tryd.zeroValue41 }
def Sh.sortedL_ren : Go.Shelf.Ren := ⟨fun | 6 => 13 | 8 => 18 | 9 => 19 | 11 => 22 | 13 => 24 | 12 => 23 | 23 => 37 | 24 => 38 | 14 => 28 | 15 => 29 | 16 => 30 | 17 => 31 | 18 => 32 | 19 => 33 | 20 => 34 | 21 => 35 | 22 => 36 | 25 => 41 | 26 => 42 | 27 => 43 | 28 => 44 | 29 => 45 | 30 => 46 | 31 => 51 | n => n, fun | 26 => 9 | 28 => 47 | 24 => 39 | 0 => 0 | 3 => 3 | 37 => 56 | 48 => 70 | 50 => 72 | 4 => 4 | 40 => 62 | 39 => 61 | 45 => 67 | 5 => 5 | 9 => 9 | 51 => 73 | 55 => 77 | 57 => 85 | 58 => 86 | 33 => 41 | n => n, fun | n => n⟩
theorem Sh.sortedL : Go.Proofs.SlLaysZ.n6 Tryd.prog Sh.sortedL_ren := {
  mixed := by kernel_rfl
  f6 := ⟨Tryd.f13.name, by decide, Tryd.func13.trans (congrArg some (by kernel_rfl))⟩
  f8 := ⟨Tryd.f18.name, by decide, Tryd.func18.trans (congrArg some (by kernel_rfl))⟩
  f11 := ⟨Tryd.f22.name, by decide, Tryd.func22.trans (congrArg some (by kernel_rfl))⟩
  t0 := Tryd.underlying0
  a0 := Tryd.isAgg0
  z0 := Tryd.sizeOf0
  v0 := Tryd.zeroValue0
  t24 := Tryd.underlying39
  a24 := Tryd.isAgg39
  z24 := Tryd.sizeOf39
  v24 := Tryd.zeroValue39
  t26 := Tryd.underlying9
  a26 := Tryd.isAgg9
  z26 := Tryd.sizeOf9
  v26 := Tryd.zeroValue9
  t28 := Tryd.underlying47
  a28 := Tryd.isAgg47
  z28 := Tryd.sizeOf47
  v28 := Tryd.zeroValue47
  i26 := by kernel_rfl }
def Sh.sortL_ren : Go.Shelf.Ren := ⟨fun | 6 => 19 | 8 => 24 | 9 => 23 | 19 => 37 | 20 => 38 | 21 => 28 | 22 => 29 | 23 => 30 | 24 => 31 | 25 => 32 | 26 => 33 | 27 => 34 | 28 => 35 | 29 => 36 | 36 => 41 | 31 => 42 | 32 => 43 | 37 => 44 | 38 => 45 | 39 => 46 | 41 => 51 | n => n, fun | 27 => 39 | 29 => 9 | 3 => 3 | 32 => 56 | 26 => 39 | 0 => 0 | 44 => 70 | 46 => 72 | 4 => 4 | 36 => 62 | 35 => 61 | 41 => 67 | 5 => 5 | 9 => 9 | 53 => 73 | 57 => 77 | 63 => 85 | 64 => 86 | n => n, fun | n => n⟩
theorem Sh.sortL : Go.Proofs.SlLaysM.n6 Tryd.prog Sh.sortL_ren := {
  mixed := by kernel_rfl
  f6 := ⟨Tryd.f19.name, by decide, Tryd.func19.trans (congrArg some (by kernel_rfl))⟩
  f8 := Tryd.func24.trans (congrArg some (by kernel_rfl))
  f9 := ⟨Tryd.f23.name, by decide, Tryd.func23.trans (congrArg some (by kernel_rfl))⟩
  f19 := Tryd.func37.trans (congrArg some (by kernel_rfl))
  f20 := Tryd.func38.trans (congrArg some (by kernel_rfl))
  f21 := ⟨Tryd.f28.name, by decide, Tryd.func28.trans (congrArg some (by kernel_rfl))⟩
  f22 := ⟨Tryd.f29.name, by decide, Tryd.func29.trans (congrArg some (by kernel_rfl))⟩
  f23 := ⟨Tryd.f30.name, by decide, Tryd.func30.trans (congrArg some (by kernel_rfl))⟩
  f24 := ⟨Tryd.f31.name, by decide, Tryd.func31.trans (congrArg some (by kernel_rfl))⟩
  f25 := ⟨Tryd.f32.name, by decide, Tryd.func32.trans (congrArg some (by kernel_rfl))⟩
  f26 := ⟨Tryd.f33.name, by decide, Tryd.func33.trans (congrArg some (by kernel_rfl))⟩
  f27 := ⟨Tryd.f34.name, by decide, Tryd.func34.trans (congrArg some (by kernel_rfl))⟩
  f28 := ⟨Tryd.f35.name, by decide, Tryd.func35.trans (congrArg some (by kernel_rfl))⟩
  f29 := ⟨Tryd.f36.name, by decide, Tryd.func36.trans (congrArg some (by kernel_rfl))⟩
  f31 := Tryd.func42.trans (congrArg some (by kernel_rfl))
  f32 := Tryd.func43.trans (congrArg some (by kernel_rfl))
  f36 := ⟨Tryd.f41.name, by decide, Tryd.func41.trans (congrArg some (by kernel_rfl))⟩
  f37 := ⟨Tryd.f44.name, by decide, Tryd.func44.trans (congrArg some (by kernel_rfl))⟩
  f38 := ⟨Tryd.f45.name, by decide, Tryd.func45.trans (congrArg some (by kernel_rfl))⟩
  f39 := ⟨Tryd.f46.name, by decide, Tryd.func46.trans (congrArg some (by kernel_rfl))⟩
  f41 := ⟨Tryd.f51.name, by decide, Tryd.func51.trans (congrArg some (by kernel_rfl))⟩
  t0 := Tryd.underlying0
  a0 := Tryd.isAgg0
  z0 := Tryd.sizeOf0
  v0 := Tryd.zeroValue0
  t3 := Tryd.underlying3
  a3 := Tryd.isAgg3
  z3 := Tryd.sizeOf3
  v3 := Tryd.zeroValue3
  t4 := Tryd.underlying4
  a4 := Tryd.isAgg4
  z4 := Tryd.sizeOf4
  v4 := Tryd.zeroValue4
  t5 := Tryd.underlying5
  a5 := Tryd.isAgg5
  z5 := Tryd.sizeOf5
  v5 := Tryd.zeroValue5
  t9 := Tryd.underlying9
  a9 := Tryd.isAgg9
  z9 := Tryd.sizeOf9
  v9 := Tryd.zeroValue9
  t26 := Tryd.underlying39
  a26 := Tryd.isAgg39
  z26 := Tryd.sizeOf39
  v26 := Tryd.zeroValue39
  t27 := Tryd.underlying39
  a27 := Tryd.isAgg39
  z27 := Tryd.sizeOf39
  v27 := Tryd.zeroValue39
  t29 := Tryd.underlying9
  a29 := Tryd.isAgg9
  z29 := Tryd.sizeOf9
  v29 := Tryd.zeroValue9
  t32 := Tryd.underlying56
  a32 := Tryd.isAgg56
  z32 := Tryd.sizeOf56
  v32 := Tryd.zeroValue56
  t35 := Tryd.underlying61
  a35 := Tryd.isAgg61
  z35 := Tryd.sizeOf61
  v35 := Tryd.zeroValue61
  t36 := Tryd.underlying62
  a36 := Tryd.isAgg62
  z36 := Tryd.sizeOf62
  v36 := Tryd.zeroValue62
  t41 := Tryd.underlying67
  a41 := Tryd.isAgg67
  z41 := Tryd.sizeOf67
  v41 := Tryd.zeroValue67
  t44 := Tryd.underlying70
  a44 := Tryd.isAgg70
  z44 := Tryd.sizeOf70
  v44 := Tryd.zeroValue70
  t46 := Tryd.underlying72
  a46 := Tryd.isAgg72
  z46 := Tryd.sizeOf72
  v46 := Tryd.zeroValue72
  t53 := Tryd.underlying73
  a53 := Tryd.isAgg73
  z53 := Tryd.sizeOf73
  v53 := Tryd.zeroValue73
  t57 := Tryd.underlying77
  a57 := Tryd.isAgg77
  z57 := Tryd.sizeOf77
  v57 := Tryd.zeroValue77
  t63 := Tryd.underlying85
  a63 := Tryd.isAgg85
  z63 := Tryd.sizeOf85
  v63 := Tryd.zeroValue85
  t64 := Tryd.underlying86
  a64 := Tryd.isAgg86
  z64 := Tryd.sizeOf86
  v64 := Tryd.zeroValue86 }
theorem Sh.sorts (m : Nat) : AnyZ.SortsIn Tryd.prog Sh.sortedL_ren Fence.wide m :=
  ⟨fun blk off cap ss W hH hblk hsz => callsIn_wide.2 (AnyM.slices_Sort_string Sh.sortL blk off cap ss W hH hblk hsz),
   fun p cap W => callsIn_wide.2 (AnyM.slices_Sort_string_none Sh.sortL p cap W)⟩
theorem keyOf_str {k : TypeId} (hk : Tryd.prog.underlying k = some .string) (s : ByteArray) (h : s.size ≤ maxLen) : Go.keyOf Tryd.prog k (.string s) = some (.string s.data.toList) := WideMaps.keyOf_string_mk hk h
def anyR : Value → Option (DataW Unit × List MemPlace) := fun _ => some (.nil, [])
theorem rd_fl (l : List (ByteArray × ByteArray)) (hs : ∀ p ∈ l, p.1.size ≤ maxLen) : ∀ i, ∀ x ∈ flL l i, ∃ p ∈ l, x.key = .string p.1 ∧ WideElems.rd Tryd.prog 9 anyR x = some (.string p.1.data.toList, .nil) := by
  induction l with
  | nil => intro i x hx; cases hx
  | cons p t ih =>
    intro i x hx
    rw [flL] at hx
    rcases List.mem_cons.1 hx with rfl | hx
    · refine ⟨p, List.mem_cons_self .., rfl, ?_⟩
      unfold WideElems.rd
      rw [keyOf_str Tryd.underlying9 _ (hs p (List.mem_cons_self ..))]; rfl
    · obtain ⟨q, hq, h⟩ := ih (fun q hq => hs q (List.mem_cons_of_mem _ hq)) (i + 1) x hx
      exact ⟨q, List.mem_cons_of_mem _ hq, h⟩
theorem rg_map (l : List (ByteArray × ByteArray)) (hs : ∀ p ∈ l, p.1.size ≤ maxLen) : ∀ i, (flL l i).map (WideElems.rg Tryd.prog 9 anyR) = l.map (fun p => (Lit.string p.1.data.toList, (.nil : DataW Unit))) := by
  induction l with
  | nil => intro i; rfl
  | cons p t ih =>
    intro i
    rw [flL, List.map_cons, List.map_cons, ih (fun q hq => hs q (List.mem_cons_of_mem _ hq)) (i + 1)]
    congr 1
    unfold WideElems.rg WideElems.rd
    rw [keyOf_str Tryd.underlying9 _ (hs p (List.mem_cons_self ..))]; rfl
theorem born_fl (l : List (ByteArray × ByteArray)) : ∀ i, ∀ x ∈ flL l i, i ≤ x.born ∧ x.born < i + l.length := by
  induction l with
  | nil => intro i x hx; cases hx
  | cons p t ih =>
    intro i x hx
    rw [flL] at hx
    rw [List.length_cons]
    rcases List.mem_cons.1 hx with rfl | hx
    · exact ⟨Nat.le_refl _, by show i < _; omega⟩
    · have := ih (i + 1) x hx; omega
theorem stamped_fl (l : List (ByteArray × ByteArray)) (hn : (l.map (·.1)).Nodup) : ∀ i, (∀ x ∈ flL l i, x.born < i + l.length) ∧ ((flL l i).map (·.born)).Nodup ∧ (flL l i).Pairwise (fun x y => x.key ≠ y.key) := by
  induction l with
  | nil => intro i; exact ⟨(fun x hx => by cases hx), List.nodup_nil, List.Pairwise.nil⟩
  | cons p t ih =>
    intro i
    rw [List.map_cons, List.nodup_cons] at hn
    obtain ⟨_, h2, h3⟩ := ih hn.2 (i + 1)
    refine ⟨fun x hx => (born_fl (p :: t) i x hx).2, ?_, ?_⟩
    · rw [flL, List.map_cons, List.nodup_cons]
      refine ⟨fun hm => ?_, h2⟩
      obtain ⟨x, hx, e⟩ := List.mem_map.1 hm
      have := (born_fl t (i + 1) x hx).1
      have e' : x.born = i := e
      omega
    · rw [flL, List.pairwise_cons]
      refine ⟨fun x hx => ?_, h3⟩
      have key : ∀ (t : List (ByteArray × ByteArray)) (i : Nat), ∀ x ∈ flL t i, ∃ q ∈ t, x.key = .string q.1 := by
        intro t
        induction t with
        | nil => intro i x hx; cases hx
        | cons q t ih =>
          intro i x hx
          rw [flL] at hx
          rcases List.mem_cons.1 hx with rfl | hx
          · exact ⟨q, List.mem_cons_self .., rfl⟩
          · obtain ⟨r, hr, e⟩ := ih (i + 1) x hx; exact ⟨r, List.mem_cons_of_mem _ hr, e⟩
      obtain ⟨q, hq, e⟩ := key t (i + 1) x hx
      rw [e]
      intro h
      injection h with h
      exact hn.1 (List.mem_map.2 ⟨q, hq, h.symm⟩)
theorem owns_fl {w : World} {r : Nat} {l : List (ByteArray × ByteArray)} (hb : w.heap[r]? = some (.map (flE l) l.length)) (hs : ∀ p ∈ l, p.1.size ≤ maxLen) (hn : (l.map (·.1)).Nodup) (hl : l.length ≤ maxLen) :
    w.ownsMap Tryd.prog 9 anyR r l.length (.map ((l.map (fun p => (Lit.string p.1.data.toList, (.nil : DataW Unit)))).foldr DataW.insert [])) := by
  have hz : (flE l).size = l.length := by
    unfold flE
    rw [List.size_toArray]
    have : ∀ (l : List (ByteArray × ByteArray)) (i : Nat), (flL l i).length = l.length := by
      intro l
      induction l with
      | nil => intro i; rfl
      | cons p t ih => intro i; rw [flL, List.length_cons, ih, List.length_cons]
    exact this l 0
  refine ⟨flE l, l.length, hb, ⟨by rw [hz]; exact hl, ?_, fun x hx => ?_⟩, by rw [hz]; exact Nat.le_refl _, ?_⟩
  · obtain ⟨h1, h2, h3⟩ := stamped_fl l hn 0
    refine (MapKept.stamped_iff _ _).2 ⟨fun x hx => ?_, h2, h3⟩
    have := h1 x hx; omega
  · obtain ⟨p, _, _, h⟩ := rd_fl l hs 0 x hx
    exact ⟨_, h⟩
  · rw [show (flE l).toList = flL l 0 from rfl, rg_map l hs 0]
def keysOf (l : List (ByteArray × ByteArray)) (ks : List ByteArray) : Prop := ks.Perm (l.map (·.1)) ∧ ks.Pairwise (fun a b => a.data.toList ≤ b.data.toList)
def KeysPost (w : World) (l : List (ByteArray × ByteArray)) (e : Ending) (w' : World) : Prop := ∃ v ks, e = .returned v ∧ keysOf l ks ∧ Kd.R Kd.string 9 w' w.heap.size (fun _ => True) v ks ∧ Below w.heap.size w w'
theorem strKeys_fl (l : List (ByteArray × ByteArray)) : (strKeys (.map ((l.map (fun p => (Lit.string p.1.data.toList, (.nil : DataW Unit)))).foldr DataW.insert []))).Perm (l.map (fun p => p.1.data.toList)) := by
  unfold strKeys
  refine ((WideShapes.sorted_perm _).map _).trans ?_
  rw [List.map_map]
  exact List.Perm.refl _
theorem Sh.mapsKeys (mb : Option Nat) (W : World) : CallsIn Fence.wide 5 Tryd.prog 14 #[.map mb] W fun e w' => e = .returned (.func (.func 20) #[] #[.pointer (some ⟨W.heap.size, 0, none⟩)]) ∧ w' = W.alloc (.cells #[.map mb] 28) :=
  AnyZ.keys_in Sh.keysL Fence.wide 5 trivial rfl mb W
set_option maxHeartbeats 1000000 in
theorem Sh.sortedKeys {H : Type} (b nn : Nat) (D0 : DataW H) (R : Value → Option (DataW H × List MemPlace)) (w : World) (hown : w.ownsMap Tryd.prog 9 R b nn D0) (hmax : Maps.size D0 ≤ maxLen) (hbytes : Maps.size D0 * 16 ≤ 140737488355328) :
    CallsIn Fence.wide 5 Tryd.prog 13 #[.func (.func 20) #[] #[.pointer (some ⟨w.heap.size, 0, none⟩)]] (w.alloc (.cells #[.map (some b)] 28)) fun e w' => ∃ (v : Value) (ss : List (List UInt8)), e = .returned v ∧ ss.Perm (strKeys D0) ∧
      w'.ownsRow (w.alloc (.cells #[.map (some b)] 28)).heap.size 9 1 v ss.length ((ss.mergeSort (fun x y => decide (x ≤ y))).map encStr) ∧ (v = .slice none 0 0 ↔ ss = []) ∧ Below (w.alloc (.cells #[.map (some b)] 28)).heap.size (w.alloc (.cells #[.map (some b)] 28)) w' := by
  have hbl := hown.lt
  have hseq : SeqGives Fence.wide 2 Tryd.prog 20 #[.pointer (some ⟨w.heap.size, 0, none⟩)] encStr (fun ss => ss.Perm (strKeys D0)) (Maps.size D0) (w.alloc (.cells #[.map (some b)] 28)) :=
    AnyZ.keys_gives (ρ := Sh.keysL_ren) { Sh.keysL with } Fence.wide _ trivial rfl (by omega) w.heap.size b nn D0 _ (by simp) (by simp) (by
      obtain ⟨es, clock, hb, Ft, hs, hD⟩ := hown
      exact ⟨es, clock, (Below.heap_alloc _ _ b hbl).trans hb, Ft, hs, hD⟩)
  exact AnyZ.sorted_in Sh.sortedL Fence.wide 5 trivial trivial trivial trivial rfl (by omega) (Sh.sorts _) (enters_of Tryd.func19 (by kernel_rfl) rfl) 20 #[.pointer (some ⟨w.heap.size, 0, none⟩)] trivial (enters_of Tryd.func20 (by kernel_rfl) rfl) _ _ hmax hbytes _ hseq
set_option maxHeartbeats 1000000 in
theorem Sh.sortedNil (w : World) :
    CallsIn Fence.wide 5 Tryd.prog 13 #[.func (.func 20) #[] #[.pointer (some ⟨w.heap.size, 0, none⟩)]] (w.alloc (.cells #[.map none] 28)) fun e w' => ∃ (v : Value) (ss : List (List UInt8)), e = .returned v ∧ ss = [] ∧
      w'.ownsRow (w.alloc (.cells #[.map none] 28)).heap.size 9 1 v ss.length ((ss.mergeSort (fun x y => decide (x ≤ y))).map encStr) ∧ (v = .slice none 0 0 ↔ ss = []) ∧ Below (w.alloc (.cells #[.map none] 28)).heap.size (w.alloc (.cells #[.map none] 28)) w' := by
  have hseq : SeqGives Fence.wide 2 Tryd.prog 20 #[.pointer (some ⟨w.heap.size, 0, none⟩)] encStr (fun ss : List (List UInt8) => ss = []) 0 (w.alloc (.cells #[.map none] 28)) :=
    AnyZ.keys_gives_nil (ρ := Sh.keysL_ren) { Sh.keysL with } Fence.wide _ trivial rfl w.heap.size _ (by simp) (by simp)
  exact AnyZ.sorted_in Sh.sortedL Fence.wide 5 trivial trivial trivial trivial rfl (by omega) (Sh.sorts _) (enters_of Tryd.func19 (by kernel_rfl) rfl) 20 #[.pointer (some ⟨w.heap.size, 0, none⟩)] trivial (enters_of Tryd.func20 (by kernel_rfl) rfl) _ 0 (Nat.zero_le _) (by omega) _ hseq
theorem keysPost_of {w W w' : World} {l : List (ByteArray × ByteArray)} {v : Value} {ss : List (List UInt8)} {B : Nat} (hB : w.heap.size ≤ B) (hS : ss.Perm (l.map (fun p => p.1.data.toList)))
    (hrow : w'.ownsRow B 9 1 v ss.length ((ss.mergeSort (fun x y => decide (x ≤ y))).map encStr)) (hb : Below w.heap.size w w') : KeysPost w l (.returned v) w' := by
  refine ⟨v, (ss.mergeSort (fun x y => decide (x ≤ y))).map (fun b => ⟨b.toArray⟩), rfl, ⟨?_, ?_⟩, ?_, hb⟩
  · have h := (List.mergeSort_perm ss (fun x y => decide (x ≤ y))).trans hS
    have h2 := h.map (fun b : List UInt8 => (⟨b.toArray⟩ : ByteArray))
    rw [List.map_map] at h2
    exact h2.trans (List.Perm.of_eq (List.map_congr_left (fun p _ => rfl)))
  · rw [List.pairwise_map]
    have tr : ∀ a b c : List UInt8, decide (a ≤ b) = true → decide (b ≤ c) = true → decide (a ≤ c) = true := fun a b c h1 h2 => by simp only [decide_eq_true_eq] at *; exact List.le_trans h1 h2
    have tot : ∀ a b : List UInt8, (decide (a ≤ b) || decide (b ≤ a)) = true := fun a b => by simp only [Bool.or_eq_true, decide_eq_true_eq]; exact List.le_total a b
    exact (List.pairwise_mergeSort tr tot ss).imp (fun h => of_decide_eq_true h)
  · refine Kd.R_of_own ?_ (fun _ _ => trivial)
    have hl : ((ss.mergeSort (fun x y => decide (x ≤ y))).map (fun b : List UInt8 => (⟨b.toArray⟩ : ByteArray))).length = ss.length := by rw [List.length_map, List.length_mergeSort]
    rw [hl]
    have he : encs Value.string ((ss.mergeSort (fun x y => decide (x ≤ y))).map (fun b : List UInt8 => (⟨b.toArray⟩ : ByteArray))) = (ss.mergeSort (fun x y => decide (x ≤ y))).map encStr := by
      unfold encs; rw [List.map_map]; rfl
    rw [he]
    exact own_less hrow hB
set_option maxHeartbeats 4000000 in
set_option maxRecDepth 100000 in
theorem Keys_any (m : Option Nat) (l : List (ByteArray × ByteArray)) (w : World) (hm : StrMap w m l) (hs : ∀ p ∈ l, p.1.size ≤ maxLen) (hn : (l.map (·.1)).Nodup) (hl : l.length ≤ 1000) :
    Calls Tryd.prog 10 #[.agg #[.map m]] w (KeysPost w l) := by
  have hu := Tryd.underlying30
  refine (callsIn_wide (n := 6)).1 ?_
  refine callsIn_of_wp Tryd.func10 rfl trivial ?_ rfl
  simp only [Tryd.ntmps10, List.size_toArray, List.length_cons, List.length_nil, Nat.reduceAdd, Nat.reduceSub, Array.replicate_succ, Array.replicate_zero, List.push_toArray, List.append_toArray, List.nil_append, List.cons_append]
  obtain ⟨W0, hW0⟩ : ∃ W0, W0 = w.alloc (.cells #[.map m] 30) := ⟨_, rfl⟩
  have hB : Below w.heap.size w W0 := by rw [hW0]; exact (Below.refl _ w).alloc (Nat.le_refl _) _
  have hm0 := hm.kept hB
  have HZ := Aside0.mk (show W0.heap.size = w.heap.size + 1 from by rw [hW0]; exact World.size_alloc _ _)
  have HB := Aside0.mk hB
  have HM := Aside0.mk hm0
  have HS := Aside0.mk hs
  have HN := Aside0.mk hn
  have HL := Aside0.mk hl
  clear hm hB hm0 hs hn hl
  gi_wp2_with (refine ⟨trivial, ?_⟩; gi_at_call 14; refine (Sh.mapsKeys _ _).mono ?_; rintro e w' ⟨rfl, rfl⟩)
  refine ⟨trivial, ?_⟩
  rw [← hW0, ← HZ.out]
  rcases HM.out with ⟨rfl, rfl⟩ | ⟨r, rfl, hr⟩
  · refine (Sh.sortedNil W0).mono ?_
    rintro e w' ⟨v, ss, rfl, rfl, hrow, hnil, hb⟩
    have HP := Aside0.mk (keysPost_of (w := w) (W := W0) (l := []) (by rw [World.size_alloc, HZ.out]; omega) (List.Perm.refl _) hrow ((HB.out.alloc HB.out.size _).trans (hb.mono (by rw [World.size_alloc, HZ.out]; omega))))
    clear hrow hnil hb
    gi_wp2
    go_ret
    exact HP.out
  · have hown := owns_fl hr HS.out HN.out (by have := HL.out; unfold maxLen; omega)
    have hsz : Maps.size (.map ((l.map (fun p => (Lit.string p.1.data.toList, (.nil : DataW Unit)))).foldr DataW.insert [])) = l.length := by
      rw [Maps.size_eq, (WideShapes.sorted_perm _).length_eq, List.length_map]
    refine (Sh.sortedKeys r l.length _ anyR W0 hown (by rw [hsz]; have := HL.out; unfold maxLen; omega) (by rw [hsz]; have := HL.out; omega)).mono ?_
    rintro e w' ⟨v, ss, rfl, hS, hrow, hnil, hb⟩
    have HP := Aside0.mk (keysPost_of (w := w) (W := W0) (l := l) (by rw [World.size_alloc, HZ.out]; omega) (hS.trans (strKeys_fl l)) hrow ((HB.out.alloc HB.out.size _).trans (hb.mono (by rw [World.size_alloc, HZ.out]; omega))))
    clear hrow hnil hb hown hsz hS
    gi_wp2
    go_ret
    exact HP.out
end Go.Proofs.YtgmggompdidcoaaDoor.X
