/- the walk over SigExact -/
import Derived.Test.YtmikhngmclngiaaDoorSgBk
namespace Go.Proofs.YtmikhngmclngiaaDoor
open Go.RowKit
open Rf
open Sg
open Wide
namespace Sg
theorem has_mem (s : Nat) (i : Int) : decide (i ∈ ids s) = has s i := by
  rw [Bool.eq_iff_iff, decide_eq_true_iff, mem_ids]
theorem within_all {s t : Nat} (ht : t < 4294967296) : withinF s t = (ids s).all fun x => decide (x ∈ ids t) := by
  rw [Bool.eq_iff_iff, within_iff ht, List.all_eq_true]
  constructor
  · intro h x hx
    rw [decide_eq_true_iff, mem_ids]
    rw [mem_ids] at hx
    unfold has isId at hx ⊢
    simp at hx ⊢
    exact ⟨hx.1, h x.toNat (by omega) (by omega) hx.2⟩
  · intro h j h1 h2 h3
    have := h (j : Int) ((mem_ids s j).2 (by unfold has isId; simp [h3]; omega))
    rw [decide_eq_true_iff, mem_ids] at this
    unfold has at this
    simp at this
    exact this.2
theorem meets_any {s t : Nat} : meetsF s t = (ids s).any fun x => decide (x ∈ ids t) := by
  rw [Bool.eq_iff_iff, meets_iff, List.any_eq_true]
  constructor
  · rintro ⟨j, h1, h2, h3, h4⟩
    refine ⟨(j : Int), (mem_ids s j).2 (by unfold has isId; simp [h3]; omega), ?_⟩
    rw [decide_eq_true_iff, mem_ids]
    unfold has isId
    simp [h4]
    omega
  · rintro ⟨x, hx, h⟩
    rw [decide_eq_true_iff, mem_ids] at h
    rw [mem_ids] at hx
    unfold has isId at hx h
    simp at hx h
    exact ⟨x.toNat, by omega, by omega, hx.2, h.2⟩
theorem or_add {s : Nat} (hs : s < 4294967296) {k : Nat} (hk : k ≤ 24) (h : s.testBit k = false) : s ||| 2 ^ k = s + 2 ^ k := by
  have hp : 2 ^ k < 4294967296 := by
    have := Nat.pow_lt_pow_right (a := 2) (by decide) (show k < 32 by omega)
    simpa using this
  have h0 : BitVec.ofNat 64 s &&& BitVec.ofNat 64 (2 ^ k) = 0#64 := by
    apply BitVec.eq_of_toNat_eq
    rw [BitVec.toNat_and, BitVec.toNat_ofNat, BitVec.toNat_ofNat, BitVec.toNat_ofNat, Nat.mod_eq_of_lt (by omega), Nat.mod_eq_of_lt (by omega)]
    rw [show 0 % 2 ^ 64 = 0 from rfl, zero_bits]
    intro j
    rw [Nat.testBit_and, Nat.testBit_two_pow]
    by_cases hj : k = j
    · subst hj
      rw [h]
      rfl
    · simp [hj]
  have h1 := congrArg BitVec.toNat (BitVec.add_eq_or_of_and_eq_zero _ _ h0)
  rw [BitVec.toNat_add, BitVec.toNat_or, BitVec.toNat_ofNat, BitVec.toNat_ofNat, Nat.mod_eq_of_lt (show s < 2 ^ 64 by omega), Nat.mod_eq_of_lt (show 2 ^ k < 2 ^ 64 by omega), Nat.mod_eq_of_lt (by omega)] at h1
  exact h1.symm
theorem with_no {s : Nat} {i : Int} (h : isId i = false) : withF s i = s := by
  unfold withF
  rw [h]
  rfl
theorem without_no {s : Nat} {i : Int} (h : isId i = false) : withoutF s i = s := by
  unfold withoutF
  rw [h]
  rfl
theorem with_add {s : Nat} (hs : s < 4294967296) {k : Nat} (hk : isId (k : Int) = true) (h : has s k = false) : withF s k = s + 2 ^ k := by
  have hk2 : k ≤ 24 := by unfold isId at hk; simp at hk; omega
  unfold has at h
  rw [hk, Bool.true_and, Int.toNat_natCast] at h
  unfold withF
  rw [if_pos hk, Int.toNat_natCast]
  exact or_add hs hk2 h
theorem without_not {s : Nat} (hs : s < 4294967296) {k : Nat} (hk : isId (k : Int) = true) (h : has s k = false) : withoutF s k = s := bits_ext fun j => by
  rw [without_bit s hs]
  unfold has at h
  rw [hk, Bool.true_and, Int.toNat_natCast] at h
  by_cases hj : k = j
  · subst hj
    rw [h]
    rfl
  · rw [decide_eq_false (show ¬ ((k : Int) = (j : Int)) by omega)]
    simp
theorem with_not {s : Nat} {k : Nat} (hk : isId (k : Int) = true) (h : has s k = true) : withF s k = s := bits_ext fun j => by
  rw [with_bit]
  unfold has at h
  rw [hk, Bool.true_and, Int.toNat_natCast] at h
  by_cases hj : k = j
  · subst hj
    rw [h]
    rfl
  · rw [decide_eq_false (show ¬ ((k : Int) = (j : Int)) by omega)]
    simp
theorem without_sub {s : Nat} (hs : s < 4294967296) {k : Nat} (hk : isId (k : Int) = true) (h : has s k = true) : withoutF s k + 2 ^ k = s := by
  have hk2 : k ≤ 24 := by unfold isId at hk; simp at hk; omega
  have h0 : (withoutF s k).testBit k = false := by
    have := has_without hs (k : Int)
    unfold has at this
    rw [hk, Bool.true_and, Int.toNat_natCast] at this
    exact this
  rw [← or_add (without_lt hs _) hk2 h0]
  refine bits_ext fun j => ?_
  rw [Nat.testBit_or, without_bit s hs, Nat.testBit_two_pow]
  unfold has at h
  rw [hk, Bool.true_and, Int.toNat_natCast] at h
  by_cases hj : k = j
  · subst hj
    rw [h]
    simp
  · rw [decide_eq_false (show ¬ ((k : Int) = (j : Int)) by omega)]
    simp [hj]
end Sg
set_option maxRecDepth 100000 in
set_option maxHeartbeats 16000000 in
theorem sigExact_c (s t : Nat) (i : Int) (hs : s < 4294967296) (ht : t < 4294967296) (w : World) (hg : Glob w) :
    Calls Tryd.prog 6 #[.int .u32 (s : Int), .int .u32 (t : Int), .int .i64 i] w fun e w' => e = .returned (.bool true) ∧ Below w.heap.size w w' := by
  have cw := awake_c w hg
  have cA := refIds_c s hs
  have cB := refIds_c t ht
  have cL := ids_c s hs
  have cN := len_c s hs
  have c1 := is_c s hs
  have c2 := refIs_c s hs
  have c3 := has_c s hs i
  have c4 := with_c s hs i
  have c5 := without_c s hs i
  have c6 := within_c s t hs ht
  have c7 := meets_c s t hs ht
  have hxl : (ids s).length ≤ 24 := ids_le s
  have hyl : (ids t).length ≤ 24 := ids_le t
  have cX := fun (a : Option Addr) (c : Nat) w => lawHas_c (ids s) (Nat.le_trans hxl (by decide)) a c i w
  rw [has_mem] at cX
  have cY := fun (a : Option Addr) (c : Nat) n w => lawHas_c (ids t) (Nat.le_trans hyl (by decide)) a c n w
  have cE := fun (a b : Option Addr) (c d : Nat) w => lawInts_c (ids s) (Nat.le_trans hxl (by decide)) a b c d w
  have kW := within_all (s := s) ht
  have kM := meets_any (s := s) (t := t)
  have f0 : Sg.isId i = false → withF s i = s ∧ withoutF s i = s := fun h => ⟨with_no h, without_no h⟩
  have f1 : ∀ k : Nat, i = k → Sg.isId i = true → has s i = false → withF s i = s + 2 ^ k ∧ withoutF s i = s := fun k e h g => by subst e; exact ⟨with_add hs h g, without_not hs h g⟩
  have f2 : ∀ k : Nat, i = k → Sg.isId i = true → has s i = true → withF s i = s ∧ withoutF s i + 2 ^ k = s := fun k e h g => by subst e; exact ⟨with_not h g, without_sub hs h g⟩
  have hwl := with_lt hs i
  have f3 : Sg.isId i = (decide (1 ≤ i) && decide (i ≤ 24)) := rfl
  generalize Sg.isId i = bi at *
  generalize withF s i = x4 at *
  generalize withoutF s i = x5 at *
  generalize has s i = x3 at *
  generalize isF s = x1 at *
  generalize withinF s t = x6 at *
  generalize meetsF s t = x7 at *
  generalize ids s = x at *
  generalize ids t = y at *
  have e1 : (x1 == x1) = true := beq_self_eq_true x1
  have e3 : (x3 == x3) = true := beq_self_eq_true x3
  have e4 : (((x4 : Nat) : Int) == (x4 : Int)) = true := beq_self_eq_true _
  have e5 : (((x5 : Nat) : Int) == (x5 : Int)) = true := beq_self_eq_true _
  have e6 : (x6 == x6) = true := beq_self_eq_true x6
  have e7 : (x7 == x7) = true := beq_self_eq_true x7
  have e8 : (((x.length : Nat) : Int) == (x.length : Int)) = true := beq_self_eq_true _
  replace cw := Lib.hid cw
  replace cA := Lib.hid cA
  replace cB := Lib.hid cB
  replace cL := Lib.hid cL
  replace cN := Lib.hid cN
  replace c1 := Lib.hid c1
  replace c2 := Lib.hid c2
  replace c3 := Lib.hid c3
  replace c4 := Lib.hid c4
  replace c5 := Lib.hid c5
  replace c6 := Lib.hid c6
  replace c7 := Lib.hid c7
  replace cX := Lib.hid cX
  replace cY := Lib.hid cY
  replace cE := Lib.hid cE
  replace kW := Lib.hid kW
  replace kM := Lib.hid kM
  replace f0 := Lib.hid f0
  replace f1 := Lib.hid f1
  replace f2 := Lib.hid f2
  replace f3 := Lib.hid f3
  replace hwl := Lib.hid hwl
  replace hs := Lib.hid hs
  replace ht := Lib.hid ht
  replace hg := Lib.hid hg
  go_enter Tryd.func6, Tryd.ntmps6
  go_wp2_with fail
  refine cw.out.mono ?_
  rintro e w1 ⟨rfl, hb⟩
  clear cw
  replace hb := Lib.hid hb
  go_wp2_with fail
  refine (cA.out.on _).mono ?_
  rintro e w2 ⟨a2, c2', rfl, ho, hb1⟩
  have hin := Lib.hid ho.in
  replace hb := Lib.hid (below_up hb.out hb.out.size hb1)
  clear hb1 cA ho
  go_wp2_with fail
  refine (cB.out.on _).mono ?_
  rintro e w3 ⟨a3, c3', rfl, ho, hb1⟩
  have hjn := Lib.hid ho.in
  replace hin := Lib.hid (hin.out.below hb1)
  replace hb := Lib.hid (below_up hb.out hb.out.size hb1)
  clear hb1 cB ho
  go_wp2_with fail
  go_loopw [11, 12, 13] (fun v m i wr => ∃ j : Nat, j ≤ x.length ∧ i = .int .i64 j ∧ v = .bool ((x.take j).all fun x => decide (x ∈ y)) ∧ m = .bool ((x.take j).any fun x => decide (x ∈ y)) ∧ InI wr a2 x ∧ InI wr a3 y ∧ Below w.heap.size w wr) (fun _ _ i _ => x.length - (intOf i).toNat)
  case atStart => exact ⟨0, Nat.zero_le _, rfl, rfl, rfl, hin.out, hjn.out, hb.out⟩
  case round =>
    clear hin hjn hb
    obtain ⟨j, hj, rfl, rfl, rfl, hin, hjn, hb⟩ := hrel
    by_cases hlt : j < x.length
    · obtain ⟨g, o, rfl, hg2, hc⟩ := hin.at j hlt
      have hst : x.take (j + 1) = x.take j ++ [x[j]] := List.take_succ_eq_append_getElem hlt
      have hltI : (j : Int) < (x.length : Int) := by omega
      have hA : ((x.take (j + 1)).all fun x => decide (x ∈ y)) = (((x.take j).all fun x => decide (x ∈ y)) && decide (x[j] ∈ y)) := by rw [hst, List.all_append, List.all_cons, List.all_nil, Bool.and_true]
      have hM : ((x.take (j + 1)).any fun x => decide (x ∈ y)) = (((x.take j).any fun x => decide (x ∈ y)) || decide (x[j] ∈ y)) := by rw [hst, List.any_append, List.any_cons, List.any_nil, Bool.or_false]
      clear hst
      generalize ((x.take j).all fun x => decide (x ∈ y)) = bv at *
      generalize ((x.take j).any fun x => decide (x ∈ y)) = bm at *
      have c1' := fun w h => cY.out a3 c3' x[j] w h
      generalize x[j] = n at *
      generalize decide (n ∈ y) = r at *
      replace hA := Lib.hid hA
      replace hM := Lib.hid hM
      replace hin := Lib.hid hin
      replace hb := Lib.hid hb
      cases bv with
      | false =>
        cases bm with
        | false =>
          have c8 := Lib.hid (c1' _ hjn)
          clear c1'
          replace hjn := Lib.hid hjn
          go_wp2_with fail
          refine c8.out.mono ?_
          rintro e w4 ⟨rfl, hb1⟩
          replace hin := Lib.hid (hin.out.below hb1)
          replace hjn := Lib.hid (hjn.out.below hb1)
          replace hb := Lib.hid (below_up hb.out hb.out.size hb1)
          clear hb1 c8
          go_wp2_with fail
          go_roundw
          case rel => exact ⟨j + 1, by omega, by go_num, by rw [hA.out]; rfl, by rw [hM.out]; cases r <;> rfl, hin.out, hjn.out, hb.out⟩
          case measure => simp [intOf]; omega
        | true =>
          clear c1'
          replace hjn := Lib.hid hjn
          go_wp2_with fail
          go_roundw
          case rel => exact ⟨j + 1, by omega, by go_num, by rw [hA.out]; rfl, by rw [hM.out]; cases r <;> rfl, hin.out, hjn.out, hb.out⟩
          case measure => simp [intOf]; omega
      | true =>
        have c8 := Lib.hid (c1' _ hjn)
        replace hjn := Lib.hid hjn
        cases bm with
        | false =>
          go_wp2_with fail
          refine c8.out.mono ?_
          rintro e w4 ⟨rfl, hb1⟩
          replace hc := (hb1.cell (p := ⟨g, o + j, none⟩) hg2).trans hc
          replace hin := Lib.hid (hin.out.below hb1)
          replace hjn := Lib.hid (hjn.out.below hb1)
          replace hb := Lib.hid (below_up hb.out hb.out.size hb1)
          clear hb1 c8
          have c8 := Lib.hid (c1' _ hjn.out)
          go_wp2_with fail
          refine c8.out.mono ?_
          rintro e w5 ⟨rfl, hb1⟩
          replace hin := Lib.hid (hin.out.below hb1)
          replace hjn := Lib.hid (hjn.out.below hb1)
          replace hb := Lib.hid (below_up hb.out hb.out.size hb1)
          clear hb1 c8
          go_wp2_with fail
          go_roundw
          case rel => exact ⟨j + 1, by omega, by go_num, by rw [hA.out]; cases r <;> rfl, by rw [hM.out]; cases r <;> rfl, hin.out, hjn.out, hb.out⟩
          case measure => simp [intOf]; omega
        | true =>
          clear c1'
          go_wp2_with fail
          refine c8.out.mono ?_
          rintro e w4 ⟨rfl, hb1⟩
          replace hin := Lib.hid (hin.out.below hb1)
          replace hjn := Lib.hid (hjn.out.below hb1)
          replace hb := Lib.hid (below_up hb.out hb.out.size hb1)
          clear hb1 c8
          go_wp2_with fail
          go_roundw
          case rel => exact ⟨j + 1, by omega, by go_num, by rw [hA.out]; cases r <;> rfl, by rw [hM.out]; cases r <;> rfl, hin.out, hjn.out, hb.out⟩
          case measure => simp [intOf]; omega
    · obtain rfl : j = x.length := by omega
      rw [List.take_length, ← kW.out, ← kM.out]
      clear kW kM
      replace hin := Lib.hid hin
      replace hjn := Lib.hid hjn
      replace hb := Lib.hid hb
      clear hlt hj
      by_cases h1 : 1 ≤ i
      · by_cases h2 : i ≤ 24
        · obtain ⟨k, rfl⟩ : ∃ k : Nat, i = k := ⟨i.toNat, by omega⟩
          have hk : k ≤ 24 := by omega
          have g1 : IntKind.u64.wrap (k : Int) = (k : Int) := IntWalk.u64_in _ (by omega)
          have hbi : bi = true := by rw [f3.out, decide_eq_true h1, decide_eq_true h2]; rfl
          have hp := two_pow_int k hk
          cases x3 with
          | false =>
            obtain ⟨rfl, rfl⟩ := f1.out k rfl hbi rfl
            have g2 : IntKind.u32.wrap ((x5 : Int) + 2 ^ k % 4294967296) = ((x5 + 2 ^ k : Nat) : Int) := by
              rw [hp, ← Int.natCast_add]
              exact IntWalk.u32_in _ (by have := hwl.out; omega)
            clear f0 f1 f2 f3 hp hbi
            generalize x5 + 2 ^ k = x4 at *
            have cX1 := Lib.hid (cX.out a2 c2' _ hin.out)
            go_wp2_with fail
            refine cX1.out.mono ?_
            rintro e w4 ⟨rfl, hb1⟩
            replace hin := Lib.hid (hin.out.below hb1)
            replace hb := Lib.hid (below_up hb.out hb.out.size hb1)
            clear hb1 cX1
            go_wp2_with fail
            refine (cL.out.on _).mono ?_
            rintro e w6 ⟨a6, c6', rfl, ho, hb1⟩
            have h6 := ho.in
            replace hin := Lib.hid (hin.out.below hb1)
            replace hb := Lib.hid (below_up hb.out hb.out.size hb1)
            have cE := Lib.hid (cE.out a6 a2 c6' c2' _ h6 hin.out)
            clear hb1 ho h6
            go_wp2_with fail
            refine cE.out.mono ?_
            rintro e w7 ⟨rfl, hb1⟩
            replace hin := Lib.hid (hin.out.below hb1)
            replace hb := Lib.hid (below_up hb.out hb.out.size hb1)
            clear hb1 cE
            go_wp2_with fail
            refine (cN.out.on _).mono ?_
            rintro e w8 ⟨rfl, hb1⟩
            replace hin := Lib.hid (hin.out.below hb1)
            replace hb := Lib.hid (below_up hb.out hb.out.size hb1)
            clear hb1
            go_wp2_with fail
            refine (c1.out.on _).mono ?_
            rintro e w9 ⟨rfl, rfl⟩
            go_wp2_with fail
            refine (c2.out.on _).mono ?_
            rintro e w10 ⟨rfl, hb1⟩
            replace hin := Lib.hid (hin.out.below hb1)
            replace hb := Lib.hid (below_up hb.out hb.out.size hb1)
            clear hb1
            go_wp2_with fail
            refine (c3.out.on _).mono ?_
            rintro e w11 ⟨rfl, rfl⟩
            have cX := Lib.hid (cX.out a2 c2' _ hin.out)
            go_wp2_with fail
            refine cX.out.mono ?_
            rintro e w12 ⟨rfl, hb1⟩
            replace hb := Lib.hid (below_up hb.out hb.out.size hb1)
            clear hb1 hin
            go_wp2_with fail
            refine (c4.out.on _).mono ?_
            rintro e w13 ⟨rfl, rfl⟩
            go_wp2_with fail
            refine (c5.out.on _).mono ?_
            rintro e w14 ⟨rfl, rfl⟩
            go_wp2_with fail
            refine (c6.out.on _).mono ?_
            rintro e w15 ⟨rfl, rfl⟩
            go_wp2_with fail
            refine (c7.out.on _).mono ?_
            rintro e w16 ⟨rfl, rfl⟩
            go_wp2_with fail
            go_ret
            exact ⟨rfl, hb.out⟩
          | true =>
            obtain ⟨rfl, hx5⟩ := f2.out k rfl hbi rfl
            have g2 : IntKind.u32.wrap ((x4 : Int) - 2 ^ k % 4294967296) = (x5 : Int) := by
              rw [hp, ← hx5, Int.natCast_add, Int.add_sub_cancel]
              exact IntWalk.u32_in _ (by have := hwl.out; omega)
            clear f0 f1 f2 f3 hp hbi hx5
            have cX1 := Lib.hid (cX.out a2 c2' _ hin.out)
            go_wp2_with fail
            refine cX1.out.mono ?_
            rintro e w4 ⟨rfl, hb1⟩
            replace hin := Lib.hid (hin.out.below hb1)
            replace hb := Lib.hid (below_up hb.out hb.out.size hb1)
            clear hb1 cX1
            go_wp2_with fail
            refine (cL.out.on _).mono ?_
            rintro e w6 ⟨a6, c6', rfl, ho, hb1⟩
            have h6 := ho.in
            replace hin := Lib.hid (hin.out.below hb1)
            replace hb := Lib.hid (below_up hb.out hb.out.size hb1)
            have cE := Lib.hid (cE.out a6 a2 c6' c2' _ h6 hin.out)
            clear hb1 ho h6
            go_wp2_with fail
            refine cE.out.mono ?_
            rintro e w7 ⟨rfl, hb1⟩
            replace hin := Lib.hid (hin.out.below hb1)
            replace hb := Lib.hid (below_up hb.out hb.out.size hb1)
            clear hb1 cE
            go_wp2_with fail
            refine (cN.out.on _).mono ?_
            rintro e w8 ⟨rfl, hb1⟩
            replace hin := Lib.hid (hin.out.below hb1)
            replace hb := Lib.hid (below_up hb.out hb.out.size hb1)
            clear hb1
            go_wp2_with fail
            refine (c1.out.on _).mono ?_
            rintro e w9 ⟨rfl, rfl⟩
            go_wp2_with fail
            refine (c2.out.on _).mono ?_
            rintro e w10 ⟨rfl, hb1⟩
            replace hin := Lib.hid (hin.out.below hb1)
            replace hb := Lib.hid (below_up hb.out hb.out.size hb1)
            clear hb1
            go_wp2_with fail
            refine (c3.out.on _).mono ?_
            rintro e w11 ⟨rfl, rfl⟩
            have cX := Lib.hid (cX.out a2 c2' _ hin.out)
            go_wp2_with fail
            refine cX.out.mono ?_
            rintro e w12 ⟨rfl, hb1⟩
            replace hb := Lib.hid (below_up hb.out hb.out.size hb1)
            clear hb1 hin
            go_wp2_with fail
            refine (c4.out.on _).mono ?_
            rintro e w13 ⟨rfl, rfl⟩
            go_wp2_with fail
            refine (c5.out.on _).mono ?_
            rintro e w14 ⟨rfl, rfl⟩
            go_wp2_with fail
            refine (c6.out.on _).mono ?_
            rintro e w15 ⟨rfl, rfl⟩
            go_wp2_with fail
            refine (c7.out.on _).mono ?_
            rintro e w16 ⟨rfl, rfl⟩
            go_wp2_with fail
            go_ret
            exact ⟨rfl, hb.out⟩
        · obtain ⟨rfl, rfl⟩ := f0.out (by rw [f3.out, decide_eq_false h2, Bool.and_false])
          have g1 : decide (i ≤ 24) = false := decide_eq_false h2
          clear f0 f1 f2 f3
          go_wp2_with fail
          refine (cL.out.on _).mono ?_
          rintro e w6 ⟨a6, c6', rfl, ho, hb1⟩
          have h6 := ho.in
          replace hin := Lib.hid (hin.out.below hb1)
          replace hb := Lib.hid (below_up hb.out hb.out.size hb1)
          have cE := Lib.hid (cE.out a6 a2 c6' c2' _ h6 hin.out)
          clear hb1 ho h6
          go_wp2_with fail
          refine cE.out.mono ?_
          rintro e w7 ⟨rfl, hb1⟩
          replace hin := Lib.hid (hin.out.below hb1)
          replace hb := Lib.hid (below_up hb.out hb.out.size hb1)
          clear hb1 cE
          go_wp2_with fail
          refine (cN.out.on _).mono ?_
          rintro e w8 ⟨rfl, hb1⟩
          replace hin := Lib.hid (hin.out.below hb1)
          replace hb := Lib.hid (below_up hb.out hb.out.size hb1)
          clear hb1
          go_wp2_with fail
          refine (c1.out.on _).mono ?_
          rintro e w9 ⟨rfl, rfl⟩
          go_wp2_with fail
          refine (c2.out.on _).mono ?_
          rintro e w10 ⟨rfl, hb1⟩
          replace hin := Lib.hid (hin.out.below hb1)
          replace hb := Lib.hid (below_up hb.out hb.out.size hb1)
          clear hb1
          go_wp2_with fail
          refine (c3.out.on _).mono ?_
          rintro e w11 ⟨rfl, rfl⟩
          have cX := Lib.hid (cX.out a2 c2' _ hin.out)
          go_wp2_with fail
          refine cX.out.mono ?_
          rintro e w12 ⟨rfl, hb1⟩
          replace hb := Lib.hid (below_up hb.out hb.out.size hb1)
          clear hb1 hin
          go_wp2_with fail
          refine (c4.out.on _).mono ?_
          rintro e w13 ⟨rfl, rfl⟩
          go_wp2_with fail
          refine (c5.out.on _).mono ?_
          rintro e w14 ⟨rfl, rfl⟩
          go_wp2_with fail
          refine (c6.out.on _).mono ?_
          rintro e w15 ⟨rfl, rfl⟩
          go_wp2_with fail
          refine (c7.out.on _).mono ?_
          rintro e w16 ⟨rfl, rfl⟩
          go_wp2_with fail
          go_ret
          exact ⟨rfl, hb.out⟩
      · obtain ⟨rfl, rfl⟩ := f0.out (by rw [f3.out, decide_eq_false h1]; rfl)
        have g1 : decide (1 ≤ i) = false := decide_eq_false h1
        clear f0 f1 f2 f3
        go_wp2_with fail
        refine (cL.out.on _).mono ?_
        rintro e w6 ⟨a6, c6', rfl, ho, hb1⟩
        have h6 := ho.in
        replace hin := Lib.hid (hin.out.below hb1)
        replace hb := Lib.hid (below_up hb.out hb.out.size hb1)
        have cE := Lib.hid (cE.out a6 a2 c6' c2' _ h6 hin.out)
        clear hb1 ho h6
        go_wp2_with fail
        refine cE.out.mono ?_
        rintro e w7 ⟨rfl, hb1⟩
        replace hin := Lib.hid (hin.out.below hb1)
        replace hb := Lib.hid (below_up hb.out hb.out.size hb1)
        clear hb1 cE
        go_wp2_with fail
        refine (cN.out.on _).mono ?_
        rintro e w8 ⟨rfl, hb1⟩
        replace hin := Lib.hid (hin.out.below hb1)
        replace hb := Lib.hid (below_up hb.out hb.out.size hb1)
        clear hb1
        go_wp2_with fail
        refine (c1.out.on _).mono ?_
        rintro e w9 ⟨rfl, rfl⟩
        go_wp2_with fail
        refine (c2.out.on _).mono ?_
        rintro e w10 ⟨rfl, hb1⟩
        replace hin := Lib.hid (hin.out.below hb1)
        replace hb := Lib.hid (below_up hb.out hb.out.size hb1)
        clear hb1
        go_wp2_with fail
        refine (c3.out.on _).mono ?_
        rintro e w11 ⟨rfl, rfl⟩
        have cX := Lib.hid (cX.out a2 c2' _ hin.out)
        go_wp2_with fail
        refine cX.out.mono ?_
        rintro e w12 ⟨rfl, hb1⟩
        replace hb := Lib.hid (below_up hb.out hb.out.size hb1)
        clear hb1 hin
        go_wp2_with fail
        refine (c4.out.on _).mono ?_
        rintro e w13 ⟨rfl, rfl⟩
        go_wp2_with fail
        refine (c5.out.on _).mono ?_
        rintro e w14 ⟨rfl, rfl⟩
        go_wp2_with fail
        refine (c6.out.on _).mono ?_
        rintro e w15 ⟨rfl, rfl⟩
        go_wp2_with fail
        refine (c7.out.on _).mono ?_
        rintro e w16 ⟨rfl, rfl⟩
        go_wp2_with fail
        go_ret
        exact ⟨rfl, hb.out⟩
end Go.Proofs.YtmikhngmclngiaaDoor
