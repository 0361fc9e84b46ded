/- the walk over SigOrder -/
import Derived.Test.YtmikhngmclngiaaDoorSgM
namespace Go.Proofs.YtmikhngmclngiaaDoor
open Go.RowKit
open Rf
open Sg
open Wide
namespace Sg
theorem within_self {s : Nat} (hs : s < 4294967296) : withinF s s = true := (within_iff hs).2 fun _ _ _ h => h
theorem within_and_l {s : Nat} (hs : s < 4294967296) (t : Nat) : withinF (s &&& t) s = true := (within_iff hs).2 fun _ _ _ h => by
  rw [Nat.testBit_and, Bool.and_eq_true] at h
  exact h.1
theorem within_and_r {t : Nat} (ht : t < 4294967296) (s : Nat) : withinF (s &&& t) t = true := (within_iff ht).2 fun _ _ _ h => by
  rw [Nat.testBit_and, Bool.and_eq_true] at h
  exact h.2
theorem meets_comm (s t : Nat) : meetsF s t = meetsF t s := by unfold meetsF; rw [Nat.and_comm s t]
theorem ids_nil {s : Nat} : ids s = [] ↔ ∀ j, 1 ≤ j → j ≤ 24 → s.testBit j = false := by
  constructor
  · intro h j h1 h2
    have hm : ¬ ((j : Int) ∈ ids s) := by rw [h]; simp
    rw [mem_ids] at hm
    unfold has isId at hm
    simp at hm
    cases hj : s.testBit j
    · rfl
    · have := hm (by omega) (by omega)
      rw [hj] at this
      cases this
  · intro h
    refine List.eq_nil_iff_forall_not_mem.2 fun i hi => ?_
    have hi2 := (mem_ids s i).1 hi
    unfold has isId at hi2
    simp at hi2
    have := h i.toNat (by omega) (by omega)
    rw [this] at hi2
    cases hi2.2
theorem meets_len (s t : Nat) : decide (((ids (s &&& t)).length : Int) > 0) = meetsF s t := by
  rw [Bool.eq_iff_iff, decide_eq_true_iff, meets_iff]
  constructor
  · intro h
    by_cases hc : ∃ j : Nat, 1 ≤ j ∧ j ≤ 24 ∧ s.testBit j = true ∧ t.testBit j = true
    · exact hc
    · have : ids (s &&& t) = [] := ids_nil.2 fun j h1 h2 => by
        rw [Nat.testBit_and]
        cases hsj : s.testBit j
        · rfl
        · cases htj : t.testBit j
          · rfl
          · exact absurd ⟨j, h1, h2, hsj, htj⟩ hc
      rw [this] at h
      simp at h
  · rintro ⟨j, h1, h2, h3, h4⟩
    have : ids (s &&& t) ≠ [] := fun h => by
      have := ids_nil.1 h j h1 h2
      rw [Nat.testBit_and, h3, h4] at this
      cases this
    have := List.length_pos_iff.2 this
    omega
theorem within_trans {s t u : Nat} (ht : t < 4294967296) (hu : u < 4294967296) (h1 : withinF s t = true) (h2 : withinF t u = true) : withinF s u = true :=
  (within_iff hu).2 fun j a b c => (within_iff hu).1 h2 j a b ((within_iff ht).1 h1 j a b c)
theorem within_meets {s t u : Nat} (ht : t < 4294967296) (h1 : withinF s t = true) (h2 : meetsF u s = true) : meetsF u t = true := by
  obtain ⟨j, a, b, c, d⟩ := meets_iff.1 h2
  exact meets_iff.2 ⟨j, a, b, c, (within_iff ht).1 h1 j a b d⟩
theorem within_len {s t : Nat} (ht : t < 4294967296) (h : withinF s t = true) : (ids s).length ≤ (ids t).length := by
  have hb : ∀ j, 1 ≤ j → j < 1 + 24 → s.testBit j = true → t.testBit j = true := fun j a b => (within_iff ht).1 h j a (by omega)
  unfold ids
  suffices h : ∀ n k, (∀ j, k ≤ j → j < k + n → s.testBit j = true → t.testBit j = true) → (idsFrom s k n).length ≤ (idsFrom t k n).length from h 24 1 hb
  intro n
  induction n with
  | zero => intro k _; exact Nat.le_refl _
  | succ n ih =>
    intro k h
    have h1 := ih (k + 1) (fun j a b => h j (by omega) (by omega))
    rw [idsFrom, idsFrom, List.length_append, List.length_append]
    have h2 := h k (Nat.le_refl k) (by omega)
    cases hsk : s.testBit k
    · simp
      omega
    · rw [h2 hsk]
      simp
      omega
end Sg
set_option maxRecDepth 100000 in
set_option maxHeartbeats 16000000 in
theorem sigOrder_c (s t u : Nat) (hs : s < 4294967296) (ht : t < 4294967296) (hu : u < 4294967296) (w : World) (hg : Glob w) :
    Calls Tryd.prog 4 #[.int .u32 (s : Int), .int .u32 (t : Int), .int .u32 (u : Int)] w fun e w' => e = .returned (.bool true) ∧ Below w.heap.size w w' := by
  have hst : s &&& t < 4294967296 := Nat.lt_of_le_of_lt Nat.and_le_left hs
  have cw := awake_c w hg
  have e0 : bits .and .u32 (s : Int) (t : Int) = ((s &&& t : Nat) : Int) := u32_and_nat s t hs ht
  have cSS := within_c s s hs hs
  have cBS := within_c (s &&& t) s hst hs
  have cBT := within_c (s &&& t) t hst ht
  rw [within_self hs] at cSS
  rw [within_and_l hs] at cBS
  rw [within_and_r ht] at cBT
  have cMst := meets_c s t hs ht
  have cMts := meets_c t s ht hs
  rw [meets_comm t s] at cMts
  have cLb := len_c (s &&& t) hst
  have eL := meets_len s t
  have cST := within_c s t hs ht
  have cTU := within_c t u ht hu
  have cSU := within_c s u hs hu
  have cMus := meets_c u s hu hs
  have cMut := meets_c u t hu ht
  have cLs := len_c s hs
  have cLt := len_c t ht
  have cTS := within_c t s ht hs
  have cXs := text_c s hs
  have cXt := text_c t ht
  have eT : ((text (textS s)).toList == (text (textS t)).toList) = (withinF s t && withinF t s) := by
    rw [toList_byts, toList_byts, byts_text, byts_text, Bool.eq_iff_iff, beq_iff_eq, Bool.and_eq_true]
    exact text_within hs ht
  have lSU := within_trans (s := s) ht hu
  have lM := within_meets (s := s) (u := u) ht
  have lL := within_len (s := s) ht
  clear hs ht hu hst hg
  generalize withinF s t = a at *
  generalize withinF t u = b at *
  generalize withinF s u = c at *
  generalize meetsF u s = d at *
  generalize meetsF u t = f at *
  generalize withinF t s = g at *
  generalize meetsF s t = m at *
  generalize (ids (s &&& t)).length = nb at *
  generalize (ids s).length = ns at *
  generalize (ids t).length = nt at *
  generalize textS s = ts at *
  generalize textS t = tt at *
  generalize s &&& t = st at *
  have em : (!(m == decide (0 < nb))) = false := by
    rw [← eL, show decide ((nb : Int) > 0) = decide (0 < nb) from decide_eq_decide.2 (by omega)]
    cases decide (0 < nb) <;> rfl
  clear eL
  replace cw := Lib.hid cw
  replace cSS := Lib.hid cSS
  replace cBS := Lib.hid cBS
  replace cBT := Lib.hid cBT
  replace cMst := Lib.hid cMst
  replace cMts := Lib.hid cMts
  replace cLb := Lib.hid cLb
  replace cST := Lib.hid cST
  replace cTU := Lib.hid cTU
  replace cSU := Lib.hid cSU
  replace cMus := Lib.hid cMus
  replace cMut := Lib.hid cMut
  replace cLs := Lib.hid cLs
  replace cLt := Lib.hid cLt
  replace cTS := Lib.hid cTS
  replace cXs := Lib.hid cXs
  replace cXt := Lib.hid cXt
  replace em := Lib.hid em
  replace eT := Lib.hid eT
  replace lSU := Lib.hid lSU
  replace lM := Lib.hid lM
  replace lL := Lib.hid lL
  go_enter Tryd.func4, Tryd.ntmps4
  go_wp2_with fail
  refine cw.out.mono ?_
  rintro e w1 ⟨rfl, hb⟩
  clear cw
  replace hb := Lib.hid hb

  replace e0 := e0
  go_wp2_with fail
  refine (cSS.out.on _).mono ?_
  rintro e w2 ⟨rfl, rfl⟩
  go_wp2_with fail
  refine (cBS.out.on _).mono ?_
  rintro e w2 ⟨rfl, rfl⟩
  go_wp2_with fail
  refine (cBT.out.on _).mono ?_
  rintro e w2 ⟨rfl, rfl⟩
  go_wp2_with fail
  refine (cMst.out.on _).mono ?_
  rintro e w2 ⟨rfl, rfl⟩
  go_wp2_with fail
  refine (cLb.out.on _).mono ?_
  rintro e w2 ⟨rfl, hb1⟩
  replace hb := Lib.hid (below_up hb.out hb.out.size hb1)
  clear hb1
  replace em := em.out
  go_wp2_with fail
  refine (cMst.out.on _).mono ?_
  rintro e w2 ⟨rfl, rfl⟩
  go_wp2_with fail
  refine (cMts.out.on _).mono ?_
  rintro e w2 ⟨rfl, rfl⟩
  have eN : a = true → decide (nt < ns) = false := fun h => decide_eq_false (by have := lL.out h; omega)
  replace eN := Lib.hid eN
  cases a with
  | false =>
    go_wp2_with fail
    refine (cST.out.on _).mono ?_
    rintro e w2 ⟨rfl, rfl⟩
    go_wp2_with fail
    refine (cST.out.on _).mono ?_
    rintro e w2 ⟨rfl, rfl⟩
    go_wp2_with fail
    refine (cST.out.on _).mono ?_
    rintro e w2 ⟨rfl, rfl⟩
    have eG : (false == false) = true := rfl
    go_wp2_with fail
    refine (cST.out.on _).mono ?_
    rintro e w2 ⟨rfl, rfl⟩
    go_wp2_with fail
    refine (cXs.out.on _).mono ?_
    rintro e w3 ⟨rfl, hb1⟩
    replace hb := Lib.hid (below_up hb.out hb.out.size hb1)
    clear hb1
    go_wp2_with fail
    refine (cXt.out.on _).mono ?_
    rintro e w4 ⟨rfl, hb1⟩
    replace hb := Lib.hid (below_up hb.out hb.out.size hb1)
    clear hb1
    replace eT := eT.out
    go_wp2_with fail
    go_ret
    exact ⟨rfl, hb.out⟩
  | true =>
    replace eN := Lib.hid (eN.out rfl)
    replace lSU := Lib.hid (lSU.out rfl)
    replace lM := Lib.hid (lM.out rfl)
    cases b with
    | false =>
      cases d with
      | false =>
        go_wp2_with fail
        refine (cST.out.on _).mono ?_
        rintro e w2 ⟨rfl, rfl⟩
        go_wp2_with fail
        refine (cTU.out.on _).mono ?_
        rintro e w2 ⟨rfl, rfl⟩
        go_wp2_with fail
        refine (cST.out.on _).mono ?_
        rintro e w2 ⟨rfl, rfl⟩
        go_wp2_with fail
        refine (cMus.out.on _).mono ?_
        rintro e w2 ⟨rfl, rfl⟩
        go_wp2_with fail
        refine (cST.out.on _).mono ?_
        rintro e w2 ⟨rfl, rfl⟩
        go_wp2_with fail
        refine (cLs.out.on _).mono ?_
        rintro e w3 ⟨rfl, hb1⟩
        replace hb := Lib.hid (below_up hb.out hb.out.size hb1)
        clear hb1
        go_wp2_with fail
        refine (cLt.out.on _).mono ?_
        rintro e w4 ⟨rfl, hb1⟩
        replace hb := Lib.hid (below_up hb.out hb.out.size hb1)
        clear hb1
        replace eN := eN.out
        have eg : (g == g) = true := beq_self_eq_true g
        go_wp2_with fail
        refine (cST.out.on _).mono ?_
        rintro e w2 ⟨rfl, rfl⟩
        go_wp2_with fail
        refine (cTS.out.on _).mono ?_
        rintro e w2 ⟨rfl, rfl⟩
        go_wp2_with fail
        refine (cXs.out.on _).mono ?_
        rintro e w5 ⟨rfl, hb1⟩
        replace hb := Lib.hid (below_up hb.out hb.out.size hb1)
        clear hb1
        go_wp2_with fail
        refine (cXt.out.on _).mono ?_
        rintro e w6 ⟨rfl, hb1⟩
        replace hb := Lib.hid (below_up hb.out hb.out.size hb1)
        clear hb1
        replace eT := eT.out
        go_wp2_with fail
        go_ret
        exact ⟨rfl, hb.out⟩
      | true =>
        obtain rfl : f = true := lM.out rfl
        go_wp2_with fail
        refine (cST.out.on _).mono ?_
        rintro e w2 ⟨rfl, rfl⟩
        go_wp2_with fail
        refine (cTU.out.on _).mono ?_
        rintro e w2 ⟨rfl, rfl⟩
        go_wp2_with fail
        refine (cST.out.on _).mono ?_
        rintro e w2 ⟨rfl, rfl⟩
        go_wp2_with fail
        refine (cMus.out.on _).mono ?_
        rintro e w2 ⟨rfl, rfl⟩
        go_wp2_with fail
        refine (cMut.out.on _).mono ?_
        rintro e w2 ⟨rfl, rfl⟩
        go_wp2_with fail
        refine (cST.out.on _).mono ?_
        rintro e w2 ⟨rfl, rfl⟩
        go_wp2_with fail
        refine (cLs.out.on _).mono ?_
        rintro e w3 ⟨rfl, hb1⟩
        replace hb := Lib.hid (below_up hb.out hb.out.size hb1)
        clear hb1
        go_wp2_with fail
        refine (cLt.out.on _).mono ?_
        rintro e w4 ⟨rfl, hb1⟩
        replace hb := Lib.hid (below_up hb.out hb.out.size hb1)
        clear hb1
        replace eN := eN.out
        have eg : (g == g) = true := beq_self_eq_true g
        go_wp2_with fail
        refine (cST.out.on _).mono ?_
        rintro e w2 ⟨rfl, rfl⟩
        go_wp2_with fail
        refine (cTS.out.on _).mono ?_
        rintro e w2 ⟨rfl, rfl⟩
        go_wp2_with fail
        refine (cXs.out.on _).mono ?_
        rintro e w5 ⟨rfl, hb1⟩
        replace hb := Lib.hid (below_up hb.out hb.out.size hb1)
        clear hb1
        go_wp2_with fail
        refine (cXt.out.on _).mono ?_
        rintro e w6 ⟨rfl, hb1⟩
        replace hb := Lib.hid (below_up hb.out hb.out.size hb1)
        clear hb1
        replace eT := eT.out
        go_wp2_with fail
        go_ret
        exact ⟨rfl, hb.out⟩
    | true =>
      obtain rfl : c = true := lSU.out rfl
      cases d with
      | false =>
        go_wp2_with fail
        refine (cST.out.on _).mono ?_
        rintro e w2 ⟨rfl, rfl⟩
        go_wp2_with fail
        refine (cTU.out.on _).mono ?_
        rintro e w2 ⟨rfl, rfl⟩
        go_wp2_with fail
        refine (cSU.out.on _).mono ?_
        rintro e w2 ⟨rfl, rfl⟩
        go_wp2_with fail
        refine (cST.out.on _).mono ?_
        rintro e w2 ⟨rfl, rfl⟩
        go_wp2_with fail
        refine (cMus.out.on _).mono ?_
        rintro e w2 ⟨rfl, rfl⟩
        go_wp2_with fail
        refine (cST.out.on _).mono ?_
        rintro e w2 ⟨rfl, rfl⟩
        go_wp2_with fail
        refine (cLs.out.on _).mono ?_
        rintro e w3 ⟨rfl, hb1⟩
        replace hb := Lib.hid (below_up hb.out hb.out.size hb1)
        clear hb1
        go_wp2_with fail
        refine (cLt.out.on _).mono ?_
        rintro e w4 ⟨rfl, hb1⟩
        replace hb := Lib.hid (below_up hb.out hb.out.size hb1)
        clear hb1
        replace eN := eN.out
        have eg : (g == g) = true := beq_self_eq_true g
        go_wp2_with fail
        refine (cST.out.on _).mono ?_
        rintro e w2 ⟨rfl, rfl⟩
        go_wp2_with fail
        refine (cTS.out.on _).mono ?_
        rintro e w2 ⟨rfl, rfl⟩
        go_wp2_with fail
        refine (cXs.out.on _).mono ?_
        rintro e w5 ⟨rfl, hb1⟩
        replace hb := Lib.hid (below_up hb.out hb.out.size hb1)
        clear hb1
        go_wp2_with fail
        refine (cXt.out.on _).mono ?_
        rintro e w6 ⟨rfl, hb1⟩
        replace hb := Lib.hid (below_up hb.out hb.out.size hb1)
        clear hb1
        replace eT := eT.out
        go_wp2_with fail
        go_ret
        exact ⟨rfl, hb.out⟩
      | true =>
        obtain rfl : f = true := lM.out rfl
        go_wp2_with fail
        refine (cST.out.on _).mono ?_
        rintro e w2 ⟨rfl, rfl⟩
        go_wp2_with fail
        refine (cTU.out.on _).mono ?_
        rintro e w2 ⟨rfl, rfl⟩
        go_wp2_with fail
        refine (cSU.out.on _).mono ?_
        rintro e w2 ⟨rfl, rfl⟩
        go_wp2_with fail
        refine (cST.out.on _).mono ?_
        rintro e w2 ⟨rfl, rfl⟩
        go_wp2_with fail
        refine (cMus.out.on _).mono ?_
        rintro e w2 ⟨rfl, rfl⟩
        go_wp2_with fail
        refine (cMut.out.on _).mono ?_
        rintro e w2 ⟨rfl, rfl⟩
        go_wp2_with fail
        refine (cST.out.on _).mono ?_
        rintro e w2 ⟨rfl, rfl⟩
        go_wp2_with fail
        refine (cLs.out.on _).mono ?_
        rintro e w3 ⟨rfl, hb1⟩
        replace hb := Lib.hid (below_up hb.out hb.out.size hb1)
        clear hb1
        go_wp2_with fail
        refine (cLt.out.on _).mono ?_
        rintro e w4 ⟨rfl, hb1⟩
        replace hb := Lib.hid (below_up hb.out hb.out.size hb1)
        clear hb1
        replace eN := eN.out
        have eg : (g == g) = true := beq_self_eq_true g
        go_wp2_with fail
        refine (cST.out.on _).mono ?_
        rintro e w2 ⟨rfl, rfl⟩
        go_wp2_with fail
        refine (cTS.out.on _).mono ?_
        rintro e w2 ⟨rfl, rfl⟩
        go_wp2_with fail
        refine (cXs.out.on _).mono ?_
        rintro e w5 ⟨rfl, hb1⟩
        replace hb := Lib.hid (below_up hb.out hb.out.size hb1)
        clear hb1
        go_wp2_with fail
        refine (cXt.out.on _).mono ?_
        rintro e w6 ⟨rfl, hb1⟩
        replace hb := Lib.hid (below_up hb.out hb.out.size hb1)
        clear hb1
        replace eT := eT.out
        go_wp2_with fail
        go_ret
        exact ⟨rfl, hb.out⟩
end Go.Proofs.YtmikhngmclngiaaDoor
