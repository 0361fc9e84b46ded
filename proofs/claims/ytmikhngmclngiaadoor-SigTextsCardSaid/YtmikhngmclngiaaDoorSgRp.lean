/- the walk over retrofitref10.Parse -/
import Derived.Test.YtmikhngmclngiaaDoorSgQ
namespace Go.Proofs.YtmikhngmclngiaaDoor
open Go.RowKit
open Rf
open Sg
open Wide
namespace Sg
theorem rstep_bad43 {d : List Int} {n : Int} (h : badN d n = true) : rstep (d, n) 43 = none := by
  unfold rstep
  rw [if_pos rfl, if_pos h]
theorem rstep_ok43 {d : List Int} {n : Int} (h : badN d n = false) : rstep (d, n) 43 = some (d ++ [n], -1) := by
  unfold rstep
  rw [if_pos rfl, if_neg (by rw [h]; decide)]
theorem ne43 {c : UInt8} {k : Nat} (hk : c.toNat = k) (h : k ≠ 43) : c ≠ 43 := fun e => by
  rw [e] at hk
  exact h hk.symm
theorem rstep_bad {d : List Int} {n : Int} {c : UInt8} {k : Nat} (hk : c.toNat = k) (h : k ≠ 43) (hb : k < 48 ∨ 57 < k ∨ n = 0 ∨ 99 < n ∨ (n < 0 ∧ k = 48)) : rstep (d, n) c = none := by
  subst hk
  unfold rstep
  rw [if_neg (ne43 rfl h), if_pos hb]
theorem rstep_dig {d : List Int} {n : Int} {c : UInt8} {k : Nat} (hk : c.toNat = k) (h : k ≠ 43) (hb : ¬ (k < 48 ∨ 57 < k ∨ n = 0 ∨ 99 < n ∨ (n < 0 ∧ k = 48))) : rstep (d, n) c = some (d, (if n < 0 then 0 else n) * 10 + ((k : Int) - 48)) := by
  subst hk
  unfold rstep
  rw [if_neg (ne43 rfl h), if_neg hb]
theorem refP_none {l : List UInt8} {q : List Int × Int} {j : Nat} (h0 : ¬ l = [45]) (hj : j < (l ++ [43]).length) (h : fold ((l ++ [43]).take j) ([], -1) = some q) (hn : rstep q (l ++ [43])[j] = none) : refP l = (0, false) := by
  unfold refP
  rw [if_neg h0, fold_none hj h hn]
theorem badN_lo {d : List Int} {n : Int} (h : n < 1) : badN d n = true := by
  unfold badN
  rw [decide_eq_true h]
  rfl
theorem badN_hi {d : List Int} {n : Int} (h : 24 < n) : badN d n = true := by
  unfold badN
  rw [decide_eq_true h, Bool.true_or, Bool.or_true]
theorem last_at {d : List Int} (h : 0 < d.length) : d.getLast? = some (d[d.length - 1]'(by omega)) := by
  rw [List.getLast?_eq_getElem?, List.getElem?_eq_getElem]
theorem badN_last {d : List Int} {n : Int} (hd : 0 < d.length) (h : n ≤ d[d.length - 1]'(by omega)) : badN d n = true := by
  unfold badN
  rw [last_at hd]
  dsimp only
  rw [decide_eq_true h, Bool.or_true, Bool.or_true]
theorem badN_ok {d : List Int} {n : Int} (h1 : 1 ≤ n) (h2 : n ≤ 24) (h : ∀ hd : 0 < d.length, d[d.length - 1]'(by omega) < n) : badN d n = false := by
  refine badN_false.2 ⟨h1, h2, fun m hm => ?_⟩
  by_cases hd : 0 < d.length
  · rw [last_at hd] at hm
    cases hm
    exact h hd
  · rw [List.eq_nil_of_length_eq_zero (by omega : d.length = 0)] at hm
    cases hm
theorem str_minus (s : ByteArray) : (s.toList == [45]) = decide (byts s = [45]) := by
  rw [toList_byts, Bool.eq_iff_iff, beq_iff_eq, decide_eq_true_iff]
end Sg
set_option maxRecDepth 100000 in
set_option maxHeartbeats 16000000 in
theorem refParse_c (s : ByteArray) (hs : s.size ≤ 100000) : Ret 12 #[.string s] (.tuple #[.int .u32 (((refP (byts s)).1 : Nat) : Int), .bool (refP (byts s)).2]) := fun w => by
  obtain ⟨i0, hi, hz0, hz1, hz2⟩ := info_parts infoInt
  obtain ⟨R, hR⟩ : ∃ r, refP (byts s) = r := ⟨_, rfl⟩
  rw [hR]
  replace hR := Lib.hid hR
  have e0 := str_minus s
  by_cases h0 : byts s = [45]
  · rw [decide_eq_true h0] at e0
    obtain rfl := hR.out
    have hr : refP (byts s) = (0, true) := by unfold refP; rw [if_pos h0]
    rw [hr]
    clear hr hR h0
    go_enter Tryd.func12, Tryd.ntmps12
    go_wp2_with fail
    (try simp only [Exit.inBlock, Exit.then])
    refine bodyPost_ret (by simp [results, Tryd.results12, go_sem]; try rfl) rfl ?_
    exact ⟨rfl, Below.refl _ _⟩
  · rw [decide_eq_false h0] at e0
    have hidx : ∀ (j : Nat) (h : j < s.size) (h' : j < (byts s ++ [43]).length), (byts s ++ [43])[j].toNat = s[j].toNat := by
      intro j h h'
      have hb : (byts s).length = s.size := byts_length s
      rw [List.getElem_append_left (by omega)]
      simp [byts]
      rfl
    have hend : ∀ (j : Nat) (h' : j < (byts s ++ [43]).length), j = s.size → (byts s ++ [43])[j] = 43 := by
      intro j h' e
      have hb : (byts s).length = s.size := byts_length s
      rw [List.getElem_append_right (by omega)]
      simp
    have hl' : (byts s ++ [43]).length = s.size + 1 := by rw [List.length_append, byts_length]; rfl
    have hbad : ∀ (q : List Int × Int) (j : Nat) (hj : j < (byts s ++ [43]).length) (h : fold ((byts s ++ [43]).take j) ([], -1) = some q) (hn : rstep q (byts s ++ [43])[j] = none), R = (0, false) := fun q j hj h hn => by rw [← hR.out]; exact refP_none h0 hj h hn
    have hgood : ∀ (q : List Int × Int), fold (byts s ++ [43]) ([], -1) = some q → R = (setOf q.1, true) := fun q h => by
      rw [← hR.out]
      unfold refP
      rw [if_neg h0, h]
    have hstep : ∀ (q p : List Int × Int) (j : Nat) (hj : j < (byts s ++ [43]).length) (h : fold ((byts s ++ [43]).take j) ([], -1) = some q) (hn : rstep q (byts s ++ [43])[j] = some p), fold ((byts s ++ [43]).take (j + 1)) ([], -1) = some p := fun q p j hj h hn => by rw [fold_take hj h, hn]
    generalize byts s ++ [43] = l at *
    clear hR h0
    go_enter Tryd.func12, Tryd.ntmps12
    replace hidx := Lib.hid hidx
    replace hend := Lib.hid hend
    replace hl' := Lib.hid hl'
    replace hbad := Lib.hid hbad
    replace hgood := Lib.hid hgood
    replace hstep := Lib.hid hstep
    go_wp2_with fail
    go_loopw [4, 5, 6] (fun b nv iv wr => ∃ (j : Nat) (d : List Int) (n : Int), j ≤ s.size + 1 ∧ iv = .int .i64 j ∧ nv = .int .i64 n ∧ (∃ a c, b = .slice a d.length c ∧ OwnI wr w.heap.size a c d) ∧ d.length ≤ j ∧ fold (l.take j) ([], -1) = some (d, n) ∧ Below w.heap.size w wr) (fun _ _ i _ => s.size + 1 - (intOf i).toNat)
    case atStart => exact ⟨0, [], -1, Nat.zero_le _, rfl, rfl, ⟨some ⟨w.heap.size, 0, none⟩, 0, rfl, ownsRow_lit w w.heap.size 3 [] 0 (Nat.le_refl _) rfl (by unfold maxLen; omega)⟩, Nat.zero_le _, rfl, below1 w _⟩
    case round =>
      clear e0
      obtain ⟨j, d, n, hj, rfl, rfl, ⟨a, c, rfl, hown⟩, hdl, hf, hb⟩ := hrel
      have hsz := hb.size
      by_cases hlt : j ≤ s.size
      · have hjl : j < l.length := by rw [hl'.out]; omega
        have hleI : (j : Int) ≤ (s.size : Int) := by omega
        have hn : n = -1 ∨ 1 ≤ n ∧ n ≤ 999 := (inv_fold Inv.nil hf).2.1
        have hbad' := fun h => hbad.out _ _ hjl hf h
        have hstep' := fun p h => hstep.out _ p _ hjl hf h
        clear hf hbad hgood hstep
        have hx := fun h => hidx.out j h hjl
        have hy := hend.out j hjl
        clear hidx hend
        generalize l[j] = x at *
        replace hbad' := Lib.hid hbad'
        replace hstep' := Lib.hid hstep'
        replace hown := Lib.hid hown
        replace hb := Lib.hid hb
        by_cases he : j = s.size
        · obtain rfl := hy he
          have e1 : ((j : Int) == (s.size : Int)) = true := beq_iff_eq.2 (by omega)
          clear hx hy
          by_cases g1 : n < 1
          · have hr := hbad'.out (rstep_bad43 (badN_lo g1))
            obtain rfl := hr
            clear hstep' hbad' hown
            go_wp2_with fail
            (try simp only [Exit.inBlock, Exit.then])
            refine bodyPost_ret (by simp [results, Tryd.results12, go_sem]; try rfl) rfl ?_
            exact ⟨rfl, hb.out⟩
          · by_cases g2 : 24 < n
            · have hr := hbad'.out (rstep_bad43 (badN_hi g2))
              obtain rfl := hr
              clear hstep' hbad' hown
              go_wp2_with fail
              (try simp only [Exit.inBlock, Exit.then])
              refine bodyPost_ret (by simp [results, Tryd.results12, go_sem]; try rfl) rfl ?_
              exact ⟨rfl, hb.out⟩
            · by_cases hd : 0 < d.length
              · have hdI : 0 < (d.length : Int) := by omega
                obtain ⟨g, rfl, hgB, hg, hc⟩ := hown.out.cell (d.length - 1) (by omega)
                have hc : wr.cell? ⟨g, d.length - 1, none⟩ = _ := hc
                have q1 : IntKind.i64.wrap ((d.length : Int) - 1) = (d.length : Int) - 1 := IntWalk.i64_in _ (by omega)
                have q2 : ((d.length : Int) - 1).toNat = d.length - 1 := by omega
                have q3 : (0 : Int) ≤ (d.length : Int) - 1 := by omega
                by_cases g3 : n ≤ d[d.length - 1]
                · have hr := hbad'.out (rstep_bad43 (badN_last hd g3))
                  generalize d[d.length - 1] = m at *
                  obtain rfl := hr
                  clear hstep' hbad' hown
                  go_wp2_with fail
                  (try simp only [Exit.inBlock, Exit.then])
                  refine bodyPost_ret (by simp [results, Tryd.results12, go_sem]; try rfl) rfl ?_
                  exact ⟨rfl, hb.out⟩
                · have hr := hstep'.out _ (rstep_ok43 (badN_ok (by omega) (by omega) (fun _ => by omega)))
                  generalize d[d.length - 1] = m at *
                  clear hstep' hbad'
                  replace hr := Lib.hid hr
                  have hsrc := src_one wr n
                  go_wp2_with (at_builtin; refine wpList_append_own_src _ rfl (.tmp 47) (.tmp 49) 23 23 rfl w.heap.size 3 i0 (.int .i64 0) 1 8 Tryd.underlying23 hi hz0 hz1 hz2 rfl rfl (hown.out.alloc _) rfl hsrc ?_ ?_ ?_ ?_)
                  · unfold maxLen; omega
                  · omega
                  · (try rw [size_alloc]); omega
                  intro b' c' w2 hown2 hg1
                  have hfin := Lib.hid (Below.grown (hb.out.alloc hsz (.cells #[.int .i64 n] 3)) hg1 (by rw [size_alloc]; omega) (fun q hq => by have := World.ownsRow.lt hown.out q hq; omega))
                  rw [show ([.int .i64 n] : List Value) = iv [n] from rfl, ← iv_append] at hown2
                  have hown3 : OwnI w2 w.heap.size b' c' (d ++ [n]) := by
                    unfold OwnI
                    rw [List.length_append]
                    exact hown2
                  replace hown3 := Lib.hid hown3
                  clear hown2 hg1 hsrc hown hb
                  go_wp2_with fail
                  go_roundw
                  case rel => exact ⟨j + 1, d ++ [n], -1, by omega, by go_num, rfl, ⟨b', c', by rw [List.length_append]; rfl, hown3.out⟩, by rw [List.length_append, List.length_singleton]; omega, hr.out, hfin.out⟩
                  case measure => simp [intOf]; omega
              · have hr := hstep'.out _ (rstep_ok43 (badN_ok (by omega) (by omega) (fun h => absurd h hd)))
                have hdI : ¬ (0 < (d.length : Int)) := by omega
                clear hstep' hbad'
                replace hr := Lib.hid hr
                have hsrc := src_one wr n
                go_wp2_with (at_builtin; refine wpList_append_own_src _ rfl (.tmp 47) (.tmp 49) 23 23 rfl w.heap.size 3 i0 (.int .i64 0) 1 8 Tryd.underlying23 hi hz0 hz1 hz2 rfl rfl (hown.out.alloc _) rfl hsrc ?_ ?_ ?_ ?_)
                · unfold maxLen; omega
                · omega
                · (try rw [size_alloc]); omega
                intro b' c' w2 hown2 hg1
                have hfin := Lib.hid (Below.grown (hb.out.alloc hsz (.cells #[.int .i64 n] 3)) hg1 (by rw [size_alloc]; omega) (fun q hq => by have := World.ownsRow.lt hown.out q hq; omega))
                rw [show ([.int .i64 n] : List Value) = iv [n] from rfl, ← iv_append] at hown2
                have hown3 : OwnI w2 w.heap.size b' c' (d ++ [n]) := by
                  unfold OwnI
                  rw [List.length_append]
                  exact hown2
                replace hown3 := Lib.hid hown3
                clear hown2 hg1 hsrc hown hb
                go_wp2_with fail
                go_roundw
                case rel => exact ⟨j + 1, d ++ [n], -1, by omega, by go_num, rfl, ⟨b', c', by rw [List.length_append]; rfl, hown3.out⟩, by rw [List.length_append, List.length_singleton]; omega, hr.out, hfin.out⟩
                case measure => simp [intOf]; omega
        · have hjs : j < s.size := by omega
          have hjI : (j : Int) < (s.size : Int) := by omega
          have e1 : ((j : Int) == (s.size : Int)) = false := beq_eq_false_iff_ne.2 (by omega)
          obtain ⟨k, hk⟩ : ∃ k : Nat, s[j].toNat = k := ⟨_, rfl⟩
          have hxk : x.toNat = k := (hx hjs).trans hk
          have hK : ((s[j].toNat : Nat) : Int) = (k : Int) := by rw [hk]
          clear hx hy hk
          replace hxk := Lib.hid hxk
          by_cases h43 : k = 43
          · obtain rfl : x = 43 := by
              apply UInt8.toNat_inj.1
              rw [hxk.out, h43]
              rfl
            have e2 : ((k : Int) == 43) = true := beq_iff_eq.2 (by omega)
            clear hxk h43
            by_cases g1 : n < 1
            · have hr := hbad'.out (rstep_bad43 (badN_lo g1))
              obtain rfl := hr
              clear hstep' hbad' hown
              go_wp2_with fail
              (try simp only [Exit.inBlock, Exit.then])
              refine bodyPost_ret (by simp [results, Tryd.results12, go_sem]; try rfl) rfl ?_
              exact ⟨rfl, hb.out⟩
            · by_cases g2 : 24 < n
              · have hr := hbad'.out (rstep_bad43 (badN_hi g2))
                obtain rfl := hr
                clear hstep' hbad' hown
                go_wp2_with fail
                (try simp only [Exit.inBlock, Exit.then])
                refine bodyPost_ret (by simp [results, Tryd.results12, go_sem]; try rfl) rfl ?_
                exact ⟨rfl, hb.out⟩
              · by_cases hd : 0 < d.length
                · have hdI : 0 < (d.length : Int) := by omega
                  obtain ⟨g, rfl, hgB, hg, hc⟩ := hown.out.cell (d.length - 1) (by omega)
                  have hc : wr.cell? ⟨g, d.length - 1, none⟩ = _ := hc
                  have q1 : IntKind.i64.wrap ((d.length : Int) - 1) = (d.length : Int) - 1 := IntWalk.i64_in _ (by omega)
                  have q2 : ((d.length : Int) - 1).toNat = d.length - 1 := by omega
                  have q3 : (0 : Int) ≤ (d.length : Int) - 1 := by omega
                  by_cases g3 : n ≤ d[d.length - 1]
                  · have hr := hbad'.out (rstep_bad43 (badN_last hd g3))
                    generalize d[d.length - 1] = m at *
                    obtain rfl := hr
                    clear hstep' hbad' hown
                    go_wp2_with fail
                    (try simp only [Exit.inBlock, Exit.then])
                    refine bodyPost_ret (by simp [results, Tryd.results12, go_sem]; try rfl) rfl ?_
                    exact ⟨rfl, hb.out⟩
                  · have hr := hstep'.out _ (rstep_ok43 (badN_ok (by omega) (by omega) (fun _ => by omega)))
                    generalize d[d.length - 1] = m at *
                    clear hstep' hbad'
                    replace hr := Lib.hid hr
                    have hsrc := src_one wr n
                    go_wp2_with (at_builtin; refine wpList_append_own_src _ rfl (.tmp 47) (.tmp 49) 23 23 rfl w.heap.size 3 i0 (.int .i64 0) 1 8 Tryd.underlying23 hi hz0 hz1 hz2 rfl rfl (hown.out.alloc _) rfl hsrc ?_ ?_ ?_ ?_)
                    · unfold maxLen; omega
                    · omega
                    · (try rw [size_alloc]); omega
                    intro b' c' w2 hown2 hg1
                    have hfin := Lib.hid (Below.grown (hb.out.alloc hsz (.cells #[.int .i64 n] 3)) hg1 (by rw [size_alloc]; omega) (fun q hq => by have := World.ownsRow.lt hown.out q hq; omega))
                    rw [show ([.int .i64 n] : List Value) = iv [n] from rfl, ← iv_append] at hown2
                    have hown3 : OwnI w2 w.heap.size b' c' (d ++ [n]) := by
                      unfold OwnI
                      rw [List.length_append]
                      exact hown2
                    replace hown3 := Lib.hid hown3
                    clear hown2 hg1 hsrc hown hb
                    go_wp2_with fail
                    go_roundw
                    case rel => exact ⟨j + 1, d ++ [n], -1, by omega, by go_num, rfl, ⟨b', c', by rw [List.length_append]; rfl, hown3.out⟩, by rw [List.length_append, List.length_singleton]; omega, hr.out, hfin.out⟩
                    case measure => simp [intOf]; omega
                · have hr := hstep'.out _ (rstep_ok43 (badN_ok (by omega) (by omega) (fun h => absurd h hd)))
                  have hdI : ¬ (0 < (d.length : Int)) := by omega
                  clear hstep' hbad'
                  replace hr := Lib.hid hr
                  have hsrc := src_one wr n
                  go_wp2_with (at_builtin; refine wpList_append_own_src _ rfl (.tmp 47) (.tmp 49) 23 23 rfl w.heap.size 3 i0 (.int .i64 0) 1 8 Tryd.underlying23 hi hz0 hz1 hz2 rfl rfl (hown.out.alloc _) rfl hsrc ?_ ?_ ?_ ?_)
                  · unfold maxLen; omega
                  · omega
                  · (try rw [size_alloc]); omega
                  intro b' c' w2 hown2 hg1
                  have hfin := Lib.hid (Below.grown (hb.out.alloc hsz (.cells #[.int .i64 n] 3)) hg1 (by rw [size_alloc]; omega) (fun q hq => by have := World.ownsRow.lt hown.out q hq; omega))
                  rw [show ([.int .i64 n] : List Value) = iv [n] from rfl, ← iv_append] at hown2
                  have hown3 : OwnI w2 w.heap.size b' c' (d ++ [n]) := by
                    unfold OwnI
                    rw [List.length_append]
                    exact hown2
                  replace hown3 := Lib.hid hown3
                  clear hown2 hg1 hsrc hown hb
                  go_wp2_with fail
                  go_roundw
                  case rel => exact ⟨j + 1, d ++ [n], -1, by omega, by go_num, rfl, ⟨b', c', by rw [List.length_append]; rfl, hown3.out⟩, by rw [List.length_append, List.length_singleton]; omega, hr.out, hfin.out⟩
                  case measure => simp [intOf]; omega
          · have e2 : ((k : Int) == 43) = false := beq_eq_false_iff_ne.2 (by omega)
            have e3 : (n == 0) = false := beq_eq_false_iff_ne.2 (by omega)
            by_cases g1 : k < 48
            · have hr := hbad'.out (rstep_bad hxk.out h43 (.inl g1))
              have g1' : (k : Int) < 48 := by omega
              obtain rfl := hr
              clear hstep' hbad' hown
              go_wp2_with fail
              (try simp only [Exit.inBlock, Exit.then])
              refine bodyPost_ret (by simp [results, Tryd.results12, go_sem]; try rfl) rfl ?_
              exact ⟨rfl, hb.out⟩
            · have g1' : ¬ (k : Int) < 48 := by omega
              by_cases g2 : 57 < k
              · have hr := hbad'.out (rstep_bad hxk.out h43 (.inr (.inl g2)))
                have g2' : 57 < (k : Int) := by omega
                obtain rfl := hr
                clear hstep' hbad' hown
                go_wp2_with fail
                (try simp only [Exit.inBlock, Exit.then])
                refine bodyPost_ret (by simp [results, Tryd.results12, go_sem]; try rfl) rfl ?_
                exact ⟨rfl, hb.out⟩
              · have g2' : ¬ 57 < (k : Int) := by omega
                by_cases g3 : 99 < n
                · have hr := hbad'.out (rstep_bad hxk.out h43 (.inr (.inr (.inr (.inl g3)))))
                  obtain rfl := hr
                  clear hstep' hbad' hown
                  go_wp2_with fail
                  (try simp only [Exit.inBlock, Exit.then])
                  refine bodyPost_ret (by simp [results, Tryd.results12, go_sem]; try rfl) rfl ?_
                  exact ⟨rfl, hb.out⟩
                · by_cases g4 : n < 0
                  · by_cases g5 : k = 48
                    · have hr := hbad'.out (rstep_bad hxk.out h43 (.inr (.inr (.inr (.inr ⟨g4, g5⟩)))))
                      have e4 : ((k : Int) == 48) = true := beq_iff_eq.2 (by omega)
                      obtain rfl := hr
                      clear hstep' hbad' hown
                      go_wp2_with fail
                      (try simp only [Exit.inBlock, Exit.then])
                      refine bodyPost_ret (by simp [results, Tryd.results12, go_sem]; try rfl) rfl ?_
                      exact ⟨rfl, hb.out⟩
                    · have e4 : ((k : Int) == 48) = false := beq_eq_false_iff_ne.2 (by omega)
                      have hr := hstep'.out _ (rstep_dig hxk.out h43 (by omega))
                      rw [if_pos g4] at hr
                      have e5 : IntKind.u8.wrap ((k : Int) - 48) = (k : Int) - 48 := IntWalk.u8_in _ (by omega)
                      replace hr := Lib.hid hr
                      clear hstep' hbad'
                      go_wp2_with fail
                      go_roundw
                      case rel => exact ⟨j + 1, d, _, by omega, by go_num, by go_num, ⟨a, c, rfl, hown.out⟩, by omega, hr.out, hb.out⟩
                      case measure => simp [intOf]; omega
                  · have hr := hstep'.out _ (rstep_dig hxk.out h43 (by omega))
                    rw [if_neg g4] at hr
                    have e5 : IntKind.u8.wrap ((k : Int) - 48) = (k : Int) - 48 := IntWalk.u8_in _ (by omega)
                    have e6 : IntKind.i64.wrap (n * 10 + ((k : Int) - 48)) = n * 10 + ((k : Int) - 48) := IntWalk.i64_in _ (by omega)
                    have e7 : IntKind.i64.wrap (n * 10) = n * 10 := IntWalk.i64_in _ (by omega)
                    replace hr := Lib.hid hr
                    clear hstep' hbad'
                    go_wp2_with fail
                    go_roundw
                    case rel => exact ⟨j + 1, d, _, by omega, by go_num, by go_num, ⟨a, c, rfl, hown.out⟩, by omega, hr.out, hb.out⟩
                    case measure => simp [intOf]; omega
      · obtain rfl : j = s.size + 1 := by omega
        rw [List.take_of_length_le (by rw [hl'.out]; omega)] at hf
        have hI := inv_fold Inv.nil hf
        have hok : okL d = true := List.all_eq_true.2 fun i hi => by
          have := hI.2.2.1 i hi
          unfold Sg.isId
          simp
          omega
        have hr := hgood.out _ hf
        have co := refOf_c d (by omega) a c wr hown.in
        rw [hok, if_pos rfl] at co
        obtain rfl := hr
        have hgt : ¬ ((s.size : Int) + 1 ≤ (s.size : Int)) := by omega
        clear hbad hgood hstep hidx hend hI hok hf hown
        replace co := Lib.hid co
        replace hb := Lib.hid hb
        go_wp2_with fail
        refine co.out.mono ?_
        rintro e w2 ⟨rfl, hb2⟩
        have hfin := Lib.hid (below_up hb.out hsz hb2)
        clear hb2
        go_wp2_with fail
        (try simp only [Exit.inBlock, Exit.then])
        refine bodyPost_ret (by simp [results, Tryd.results12, go_sem]; try rfl) rfl ?_
        exact ⟨rfl, hfin.out⟩
end Go.Proofs.YtmikhngmclngiaaDoor
