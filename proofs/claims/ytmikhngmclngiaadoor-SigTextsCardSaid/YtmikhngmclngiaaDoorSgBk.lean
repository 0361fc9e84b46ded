/- the walk over SigBack -/
import Derived.Test.YtmikhngmclngiaaDoorSgM
namespace Go.Proofs.YtmikhngmclngiaaDoor
open Go.RowKit
open Rf
open Sg
open Wide
namespace Sg
theorem ids_ok (s : Nat) : okL (ids s) = true := List.all_eq_true.2 fun i hi => by
  have := ids_id hi
  unfold isId
  simp
  omega
theorem parse_text {s : Nat} (hs : s < 4294967296) (h : isF s = true) : parseS (text (textS s)) = (s, 0) := by
  have e : outOf (text (textS s)) = s := by rw [out_segs, byts_text, out_text, set_ids_is hs h]
  unfold parseS
  rw [e, byts_text, if_pos rfl]
theorem text_len (s : Nat) : (textS s).length ≤ 100 := by
  unfold textS
  split
  · decide
  · have h := join_bd ((ids s).map dgt) (fun x hx => by
      obtain ⟨i, hi, rfl⟩ := List.mem_map.1 hx
      exact dgt_len (ids_id hi).1 (ids_id hi).2)
    rw [List.length_map] at h
    have := ids_le s
    omega
theorem is_with {s : Nat} (hs : s < 4294967296) (h : isF s = true) (i : Int) : isF (withF s i) = true := (is_iff (with_lt hs i)).2 fun j hj => by
  rw [with_bit, Bool.or_eq_true] at hj
  rcases hj with hj | hj
  · exact (is_iff hs).1 h j hj
  · unfold isId at hj
    simp at hj
    omega
theorem is_without {s : Nat} (hs : s < 4294967296) (h : isF s = true) (i : Int) : isF (withoutF s i) = true := (is_iff (without_lt hs i)).2 fun j hj => by
  rw [without_bit s hs, Bool.and_eq_true] at hj
  exact (is_iff hs).1 h j hj.1
theorem within_with {s : Nat} (hs : s < 4294967296) (i : Int) : withinF s (withF s i) = true := (within_iff (with_lt hs i)).2 fun j _ _ hj => by
  rw [with_bit, hj, Bool.true_or]
theorem without_within {s : Nat} (hs : s < 4294967296) (i : Int) : withinF (withoutF s i) s = true := (within_iff hs).2 fun j _ _ hj => by
  rw [without_bit s hs, Bool.and_eq_true] at hj
  exact hj.1
theorem has_without {s : Nat} (hs : s < 4294967296) (i : Int) : has (withoutF s i) i = false := by
  unfold has
  cases h : isId i
  · rfl
  · rw [without_bit s hs, h]
    unfold isId at h
    simp at h
    rw [decide_eq_true (show i = ((i.toNat : Nat) : Int) by omega)]
    simp
theorem has_with (s : Nat) (i : Int) : has (withF s i) i = isId i := by
  unfold has
  cases h : isId i
  · rfl
  · rw [with_bit, h]
    unfold isId at h
    simp at h
    rw [decide_eq_true (show i = ((i.toNat : Nat) : Int) by omega)]
    simp
theorem without_with {s : Nat} (hs : s < 4294967296) (i : Int) : withoutF (withF s i) i = withoutF s i := bits_ext fun j => by
  rw [without_bit _ (with_lt hs i), with_bit, without_bit s hs]
  cases s.testBit j <;> cases (isId i && decide (i = (j : Int))) <;> rfl
theorem has_with_other (s : Nat) {i o : Int} (h : o ≠ i) : has (withF s i) o = has s o := by
  unfold has
  cases ho : isId o
  · rfl
  · rw [with_bit]
    unfold isId at ho
    simp at ho
    rw [decide_eq_false (show ¬ (i = ((o.toNat : Nat) : Int)) by omega)]
    simp
theorem has_without_other {s : Nat} (hs : s < 4294967296) {i o : Int} (h : o ≠ i) : has (withoutF s i) o = has s o := by
  unfold has
  cases ho : isId o
  · rfl
  · rw [without_bit s hs]
    unfold isId at ho
    simp at ho
    rw [decide_eq_false (show ¬ (i = ((o.toNat : Nat) : Int)) by omega)]
    simp
end Sg
set_option maxRecDepth 100000 in
set_option maxHeartbeats 16000000 in
theorem sigBack_c (s : Nat) (i o : Int) (hs : s < 4294967296) (w : World) (hg : Glob w) :
    Calls Tryd.prog 5 #[.int .u32 (s : Int), .int .i64 i, .int .i64 o] w fun e w' => e = .returned (.bool true) ∧ Below w.heap.size w w' := by
  have cw := awake_c w hg
  have cI := is_c s hs
  cases hI : isF s with
  | false =>
    rw [hI] at cI
    clear hI hg
    replace cw := Lib.hid cw
    replace cI := Lib.hid cI
    go_enter Tryd.func5, Tryd.ntmps5
    go_wp2_with fail
    refine cw.out.mono ?_
    rintro e w1 ⟨rfl, hb⟩
    replace hb := Lib.hid hb
    go_wp2_with fail
    refine (cI.out.on _).mono ?_
    rintro e w2 ⟨rfl, rfl⟩
    go_wp2_with fail
    go_ret
    exact ⟨rfl, hb.out⟩
  | true =>
    rw [hI] at cI
    have cL := ids_c s hs
    have cO := fun a c w => of_c (ids s) (Nat.le_trans (ids_le s) (by decide)) a c w
    rw [if_pos (ids_ok s), if_pos (ids_ok s), set_ids_is hs hI] at cO
    have cX := text_c s hs
    have cP := fun w hg => parse_c (text (textS s)) (by rw [text_size]; exact Nat.le_trans (text_len s) (by decide)) w hg
    rw [parse_text hs hI] at cP
    have cW := with_c s hs i
    have cV := without_c s hs i
    have hw := with_lt hs i
    have hv := without_lt hs i
    have c1 := is_c _ hw
    rw [is_with hs hI] at c1
    have c2 := is_c _ hv
    rw [is_without hs hI] at c2
    have c3 := within_c s _ hs hw
    rw [within_with hs i] at c3
    have c4 := within_c _ s hv hs
    rw [without_within hs i] at c4
    have c5 := has_c _ hv i
    rw [has_without hs i] at c5
    have c6 := without_c _ hw i
    rw [without_with hs i] at c6
    have c7 := has_c _ hw i
    rw [has_with] at c7
    have c8 := has_c _ hw o
    have c9 := has_c s hs o
    have c10 := has_c _ hv o
    have k8 : o ≠ i → has (withF s i) o = has s o := has_with_other s
    have k10 : o ≠ i → has (withoutF s i) o = has s o := has_without_other hs
    clear hI hs hw hv
    generalize withF s i = x at *
    generalize withoutF s i = y at *
    generalize text (textS s) = tx at *
    generalize ids s = l at *
    generalize has x o = hx at *
    generalize has y o = hy at *
    generalize has s o = hz at *
    obtain ⟨p, q, e1, e2, e3⟩ : ∃ p q, decide (1 ≤ i) = p ∧ decide (i ≤ 24) = q ∧ Sg.isId i = (p && q) := ⟨_, _, rfl, rfl, rfl⟩
    rw [e3] at c7
    clear e3
    replace cw := Lib.hid cw
    replace cI := Lib.hid cI
    replace hg := Lib.hid hg
    replace cO := Lib.hid cO
    replace cP := Lib.hid cP
    replace cL := Lib.hid cL
    replace k8 := Lib.hid k8
    replace k10 := Lib.hid k10
    replace e1 := Lib.hid e1
    replace e2 := Lib.hid e2
    replace cX := Lib.hid cX
    replace cW := Lib.hid cW
    replace cV := Lib.hid cV
    replace c1 := Lib.hid c1
    replace c2 := Lib.hid c2
    replace c3 := Lib.hid c3
    replace c4 := Lib.hid c4
    replace c5 := Lib.hid c5
    replace c6 := Lib.hid c6
    replace c7 := Lib.hid c7
    replace c8 := Lib.hid c8
    replace c9 := Lib.hid c9
    replace c10 := Lib.hid c10
    go_enter Tryd.func5, Tryd.ntmps5
    go_wp2_with fail
    refine cw.out.mono ?_
    rintro e w1 ⟨rfl, hb⟩
    clear cw
    replace hb := Lib.hid hb
    go_wp2_with fail
    refine (cI.out.on _).mono ?_
    rintro e w2 ⟨rfl, rfl⟩
    go_wp2_with fail
    refine (cL.out.on _).mono ?_
    rintro e w2 ⟨al, cl, rfl, ho, hb1⟩
    replace hb := below_up hb.out hb.out.size hb1
    clear hb1 cL
    have cO := Lib.hid (cO.out al cl w2 ho.in)
    clear ho
    replace hb := Lib.hid hb
    go_wp2_with fail
    refine cO.out.mono ?_
    rintro e w3 ⟨rfl, hb1⟩
    clear cO
    replace hb := Lib.hid (below_up hb.out hb.out.size hb1)
    clear hb1
    go_wp2_with fail
    refine (cX.out.on _).mono ?_
    rintro e w4 ⟨rfl, hb1⟩
    replace hb := Lib.hid (below_up hb.out hb.out.size hb1)
    clear hb1
    have cP := Lib.hid (cP.out w4 (hg.out.on hb.out))
    go_wp2_with fail
    refine cP.out.mono ?_
    rintro e w5 ⟨rfl, hb1⟩
    replace hb := Lib.hid (below_up hb.out hb.out.size hb1)
    clear hb1 cP

    go_wp2_with fail
    refine (cW.out.on _).mono ?_
    rintro e w6 ⟨rfl, rfl⟩
    go_wp2_with fail
    refine (cV.out.on _).mono ?_
    rintro e w6 ⟨rfl, rfl⟩
    go_wp2_with fail
    refine (c1.out.on _).mono ?_
    rintro e w6 ⟨rfl, rfl⟩
    go_wp2_with fail
    refine (c2.out.on _).mono ?_
    rintro e w6 ⟨rfl, rfl⟩
    go_wp2_with fail
    refine (c3.out.on _).mono ?_
    rintro e w6 ⟨rfl, rfl⟩
    go_wp2_with fail
    refine (c4.out.on _).mono ?_
    rintro e w6 ⟨rfl, rfl⟩
    go_wp2_with fail
    refine (c5.out.on _).mono ?_
    rintro e w6 ⟨rfl, rfl⟩
    go_wp2_with fail
    refine (c6.out.on _).mono ?_
    rintro e w6 ⟨rfl, rfl⟩
    go_wp2_with fail
    refine (c7.out.on _).mono ?_
    rintro e w6 ⟨rfl, rfl⟩
    replace e1 := e1.out
    replace e2 := e2.out
    cases p with
    | false =>
      by_cases ho : o = i
      · have e5 : (o == i) = true := beq_iff_eq.2 ho
        clear ho
        go_wp2_with fail
        go_ret
        exact ⟨rfl, hb.out⟩
      · have e5 : (o == i) = false := by simpa using ho
        obtain rfl := k8.out ho
        obtain rfl := k10.out ho
        have e6 : (hy == hy) = true := beq_self_eq_true hy
        clear ho k8 k10
        go_wp2_with fail
        refine (c8.out.on _).mono ?_
        rintro e w6 ⟨rfl, rfl⟩
        go_wp2_with fail
        refine (c9.out.on _).mono ?_
        rintro e w6 ⟨rfl, rfl⟩
        go_wp2_with fail
        refine (c10.out.on _).mono ?_
        rintro e w6 ⟨rfl, rfl⟩
        go_wp2_with fail
        refine (c9.out.on _).mono ?_
        rintro e w6 ⟨rfl, rfl⟩
        go_wp2_with fail
        go_ret
        exact ⟨rfl, hb.out⟩
    | true =>
      cases q with
      | false =>
        by_cases ho : o = i
        · have e5 : (o == i) = true := beq_iff_eq.2 ho
          clear ho
          go_wp2_with fail
          go_ret
          exact ⟨rfl, hb.out⟩
        · have e5 : (o == i) = false := by simpa using ho
          obtain rfl := k8.out ho
          obtain rfl := k10.out ho
          have e6 : (hy == hy) = true := beq_self_eq_true hy
          clear ho k8 k10
          go_wp2_with fail
          refine (c8.out.on _).mono ?_
          rintro e w6 ⟨rfl, rfl⟩
          go_wp2_with fail
          refine (c9.out.on _).mono ?_
          rintro e w6 ⟨rfl, rfl⟩
          go_wp2_with fail
          refine (c10.out.on _).mono ?_
          rintro e w6 ⟨rfl, rfl⟩
          go_wp2_with fail
          refine (c9.out.on _).mono ?_
          rintro e w6 ⟨rfl, rfl⟩
          go_wp2_with fail
          go_ret
          exact ⟨rfl, hb.out⟩
      | true =>
        by_cases ho : o = i
        · have e5 : (o == i) = true := beq_iff_eq.2 ho
          clear ho
          go_wp2_with fail
          go_ret
          exact ⟨rfl, hb.out⟩
        · have e5 : (o == i) = false := by simpa using ho
          obtain rfl := k8.out ho
          obtain rfl := k10.out ho
          have e6 : (hy == hy) = true := beq_self_eq_true hy
          clear ho k8 k10
          go_wp2_with fail
          refine (c8.out.on _).mono ?_
          rintro e w6 ⟨rfl, rfl⟩
          go_wp2_with fail
          refine (c9.out.on _).mono ?_
          rintro e w6 ⟨rfl, rfl⟩
          go_wp2_with fail
          refine (c10.out.on _).mono ?_
          rintro e w6 ⟨rfl, rfl⟩
          go_wp2_with fail
          refine (c9.out.on _).mono ?_
          rintro e w6 ⟨rfl, rfl⟩
          go_wp2_with fail
          go_ret
          exact ⟨rfl, hb.out⟩
end Go.Proofs.YtmikhngmclngiaaDoor
