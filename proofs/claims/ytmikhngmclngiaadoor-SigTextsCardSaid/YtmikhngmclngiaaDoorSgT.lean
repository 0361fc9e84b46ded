/- the walks over retrofitref10: whether a set can be, and the set of ids -/
import Derived.Test.YtmikhngmclngiaaDoorSgS
namespace Go.Proofs.YtmikhngmclngiaaDoor
open Go.RowKit
open Rf
open Sg

theorem isF_no {s : Nat} (hs : s < 4294967296) {j : Nat} (hj : s.testBit j = true) (hn : ¬ (1 ≤ j ∧ j ≤ 24)) : isF s = false := by
  cases h : isF s with
  | false => rfl
  | true => exact absurd ((is_iff hs).1 h j hj) hn
set_option maxRecDepth 100000 in
set_option maxHeartbeats 4000000 in
theorem refIs_c (s : Nat) (hs : s < 4294967296) : Ret 26 #[.int .u32 (s : Int)] (.bool (isF s)) := fun w => by
  have cb := bits_c s hs
  have hbl := bitsL_length s
  replace cb := Lib.hid cb
  obtain ⟨r, hr⟩ : ∃ r, isF s = r := ⟨_, rfl⟩
  rw [hr]
  replace hr := Lib.hid hr
  go_enter Tryd.func26, Tryd.ntmps26
  go_wp2_with fail
  refine (cb.out.on _).mono ?_
  rintro e w1 ⟨rfl, hb⟩
  have gb0 := IsB.new w1 (bitsL s)
  have hb0 := hb.alloc hb.size (oB (bitsL s))
  clear hb
  replace gb0 := Lib.hid gb0
  replace hb0 := Lib.hid hb0
  go_wp2_with (first | (with_reducible refine wpl_balloc rfl rfl ?_) | (with_reducible refine wpl_bstore_new rfl rfl rfl rfl rfl rfl hbl ?_))
  go_loopw [4] (fun i wr => ∃ j : Nat, j ≤ 32 ∧ i = .int .i64 j ∧ (∀ k, k < j → s.testBit k = true → 1 ≤ k ∧ k ≤ 24) ∧ IsB wr w1.heap.size (bitsL s) ∧ Below w.heap.size w wr) (fun i _ => 32 - (intOf i).toNat)
  case atStart => exact ⟨0, Nat.zero_le _, rfl, fun k hk => by omega, gb0.out, hb0.out⟩
  case round =>
    clear gb0 hb0
    obtain ⟨j, hj, rfl, hall, gb, hb⟩ := hrel
    by_cases hlt : j < 32
    · have cv := gb.cell j (by rw [hbl]; exact hlt)
      rw [bitsL_get s j hlt] at cv
      have hltI : (j : Int) < 32 := by omega
      cases hbit : s.testBit j with
      | false =>
        rw [hbit] at cv
        have hall' : ∀ k, k < j + 1 → s.testBit k = true → 1 ≤ k ∧ k ≤ 24 := fun k hk hk2 => by
          by_cases he : k = j
          · subst he
            rw [hbit] at hk2
            cases hk2
          · exact hall k (by omega) hk2
        clear hall hbit
        replace hall' := Lib.hid hall'
        replace gb := Lib.hid gb
        replace hb := Lib.hid hb
        go_wp2_with fail
        go_roundw
        case rel => exact ⟨j + 1, by omega, by go_num, hall'.out, gb.out, hb.out⟩
        case measure => simp [intOf]; omega
      | true =>
        rw [hbit] at cv
        by_cases hin : 1 ≤ j ∧ j ≤ 24
        · have hall' : ∀ k, k < j + 1 → s.testBit k = true → 1 ≤ k ∧ k ≤ 24 := fun k hk hk2 => by
            by_cases he : k = j
            · subst he
              exact hin
            · exact hall k (by omega) hk2
          have h1 : ¬ (j : Int) < 1 := by omega
          have h2 : ¬ (24 : Int) < (j : Int) := by omega
          clear hall hbit
          replace hall' := Lib.hid hall'
          replace gb := Lib.hid gb
          replace hb := Lib.hid hb
          go_wp2_with fail
          go_roundw
          case rel => exact ⟨j + 1, by omega, by go_num, hall'.out, gb.out, hb.out⟩
          case measure => simp [intOf]; omega
        · have h1 := hr.out
          rw [isF_no hs hbit hin] at h1
          subst h1
          clear hall hbit hr
          replace gb := Lib.hid gb
          replace hb := Lib.hid hb
          by_cases h0 : j = 0
          · subst h0
            go_wp2_with fail
            go_ret
            exact ⟨rfl, hb.out⟩
          · have h1 : ¬ (j : Int) < 1 := by omega
            have h2 : (24 : Int) < (j : Int) := by omega
            go_wp2_with fail
            go_ret
            exact ⟨rfl, hb.out⟩
    · obtain rfl : j = 32 := by omega
      have h1 := hr.out
      rw [(is_iff hs).2 (fun k hk => hall k (Nat.lt_of_not_le (fun h32 => by rw [high_bit hs k h32] at hk; cases hk)) hk)] at h1
      subst h1
      clear hall hr gb
      replace hb := Lib.hid hb
      go_wp2_with fail
      go_ret
      exact ⟨rfl, hb.out⟩
namespace Sg
/-- the bits that ids set -/
def marks (l : List Int) : List Bool := (List.range 32).map fun i : Nat => decide ((i : Int) ∈ l)
theorem marks_length (l : List Int) : (marks l).length = 32 := by simp [marks]
theorem marks_nil : marks [] = Z32 := by simp [marks, Z32]; decide
theorem marks_get (l : List Int) (i : Nat) (h : i < (marks l).length) : (marks l)[i] = decide ((i : Int) ∈ l) := by simp [marks]
theorem marks_snoc (l : List Int) (k : Nat) : (marks l).set k true = marks (l ++ [(k : Int)]) := by
  refine List.ext_getElem (by simp [marks]) (fun i h1 h2 => ?_)
  rw [List.getElem_set, marks_get, marks_get]
  by_cases hik : k = i
  · subst hik
    rw [if_pos rfl]
    simp
  · rw [if_neg hik]
    refine decide_eq_decide.2 ?_
    rw [List.mem_append]
    constructor
    · exact fun h => .inl h
    · rintro (h | h)
      · exact h
      · have := List.mem_singleton.1 h
        omega
theorem marks_bit {l : List Int} (h : okL l = true) (i : Nat) (hi : i < (marks l).length) : (marks l)[i] = (setOf l).testBit i := by
  rw [marks_get, set_bit]
  refine decide_eq_decide.2 ⟨fun hm => ⟨?_, hm⟩, fun hm => hm.2⟩
  exact List.all_eq_true.1 h _ hm
theorem high_part (n k : Nat) : n / 2 ^ k = 2 * (n / 2 ^ (k + 1)) + (if n.testBit k = true then 1 else 0) := by
  rw [Nat.testBit_eq_decide_div_mod_eq, Nat.pow_succ, ← Nat.div_div_eq_div_mul]
  generalize n / 2 ^ k = q
  by_cases h : q % 2 = 1
  · rw [if_pos (by simpa using h)]; omega
  · rw [if_neg (by simpa using h)]; omega
end Sg
set_option maxRecDepth 100000 in
set_option maxHeartbeats 4000000 in
theorem refOf_c (l : List Int) (hL : l.length ≤ 140737488355328) (a : Option Addr) (c : Nat) (w : World) (hin : InI w a l) :
    Calls Tryd.prog 8 #[.slice a l.length c] w fun e w' => e = .returned (.tuple #[.int .u32 ((if okL l = true then setOf l else 0 : Nat) : Int), .bool (okL l)]) ∧ Below w.heap.size w w' := by
  obtain ⟨rS, hrS⟩ : ∃ r, (if okL l = true then setOf l else 0) = r := ⟨_, rfl⟩
  obtain ⟨rE, hrE⟩ : ∃ r, okL l = r := ⟨_, rfl⟩
  rw [hrS]
  rw [hrE]
  have gb0 := IsB.new w Z32
  have hb0 := below1 w (oB Z32)
  have hin0 := hin.below hb0
  have hne0 : ∀ g o, a = some ⟨g, o, none⟩ → l ≠ [] → g ≠ w.heap.size := fun g o ha hl => by
    rcases hin with h | ⟨g2, o2, h2, h3, _⟩
    · exact absurd h hl
    · rw [ha] at h2
      cases h2
      omega
  replace hne0 := Lib.hid hne0
  replace hrS := Lib.hid hrS
  replace hrE := Lib.hid hrE
  replace gb0 := Lib.hid gb0
  replace hb0 := Lib.hid hb0
  replace hin0 := Lib.hid hin0
  clear hin
  go_enter Tryd.func8, Tryd.ntmps8
  go_wp2_with (first | (with_reducible refine wpl_balloc rfl rfl ?_) | (with_reducible refine wpl_bbuild rfl rfl ?_) | (with_reducible refine wpl_bstore_new rfl rfl rfl rfl rfl rfl rfl ?_))
  go_loopw [5] (fun i wr => ∃ j : Nat, j ≤ l.length ∧ i = .int .i64 j ∧ okL (l.take j) = true ∧ InI wr a l ∧ (∀ g o, a = some ⟨g, o, none⟩ → l ≠ [] → g ≠ w.heap.size) ∧ IsB wr w.heap.size (marks (l.take j)) ∧ Below w.heap.size w wr) (fun i _ => l.length - (intOf i).toNat)
  case atStart => exact ⟨0, Nat.zero_le _, rfl, rfl, hin0.out, hne0.out, by rw [List.take_zero, marks_nil]; exact gb0.out, hb0.out⟩
  case round =>
    clear hin0 gb0 hb0 hne0
    obtain ⟨j, hj, rfl, hok, hin, hne, gb, hb⟩ := hrel
    by_cases hlt : j < l.length
    · obtain ⟨g, o, rfl, hg, hc⟩ := hin.at j hlt
      have hgn := hne g o rfl (fun h => by rw [h] at hlt; cases hlt)
      have hst : l.take (j + 1) = l.take j ++ [l[j]] := List.take_succ_eq_append_getElem hlt
      have hltI : (j : Int) < (l.length : Int) := by omega
      have hmem : l[j] ∈ l := List.getElem_mem hlt
      generalize l[j] = x at *
      by_cases hx : 1 ≤ x ∧ x ≤ 24
      · obtain ⟨k, rfl⟩ : ∃ k : Nat, x = k := ⟨x.toNat, by omega⟩
        have hk : k ≤ 24 := by omega
        have h1 : ¬ (k : Int) < 1 := by omega
        have h2 : ¬ (24 : Int) < (k : Int) := by omega
        have h3 : (k : Int) < 32 := by omega
        have hok' : okL (l.take (j + 1)) = true := by
          unfold okL at *
          rw [hst, List.all_append, hok]
          unfold isId
          simp
          omega
        have hm := marks_snoc (l.take j) k
        rw [← hst] at hm
        obtain ⟨v0, cv⟩ := gb.has k (by rw [marks_length]; omega)
        have fv := gb.f k
        have gb' := gb.set k true
        rw [hm] at gb'
        have hin' : InI (wr.setCell ⟨w.heap.size, k, none⟩ (.bool true)) (some ⟨g, o, none⟩) l := by
          rcases hin with rfl | ⟨g2, o2, hg2, hg3, hc3⟩
          · exact .inl rfl
          · cases hg2
            refine .inr ⟨g, o, rfl, ?_, fun q hq => ?_⟩
            · show g < (wr.heap.modify _ _).size
              rw [Array.size_modify]
              exact hg3
            · have h4 := hc3 q hq
              unfold World.cell? at h4 ⊢
              rw [show (wr.setCell ⟨w.heap.size, k, none⟩ (.bool true)).heap[g]? = wr.heap[g]? from by
                show (wr.heap.modify w.heap.size _)[g]? = _
                rw [Array.getElem?_modify, if_neg (fun hh => hgn hh.symm)]]
              exact h4
        have hb' := hb.setCell (show w.heap.size ≤ (⟨w.heap.size, k, none⟩ : Addr).block from Nat.le_refl _) (.bool true)
        clear hok hst hmem hm gb hb hin
        replace hne := Lib.hid hne
        replace hok' := Lib.hid hok'
        replace gb' := Lib.hid gb'
        replace hin' := Lib.hid hin'
        replace hb' := Lib.hid hb'
        go_wp2_with fail
        go_roundw
        case rel => exact ⟨j + 1, by omega, by go_num, hok'.out, hin'.out, hne.out, gb'.out, hb'.out⟩
        case measure => simp [intOf]; omega
      · have hno : okL l = false := by
          unfold okL
          rw [List.all_eq_false]
          exact ⟨x, hmem, by unfold isId; simp; omega⟩
        have h1 := hrS.out
        have h2 := hrE.out
        rw [hno] at h1 h2
        rw [if_neg (by decide)] at h1
        subst h1 h2
        clear hrS hrE hno hst hok hmem hne
        replace hin := Lib.hid hin
        replace gb := Lib.hid gb
        replace hb := Lib.hid hb
        by_cases hx1 : x < 1
        · go_wp2_with fail
          (try simp only [Exit.inBlock, Exit.then])
          refine bodyPost_ret (by simp [results, Tryd.results8, go_sem]; try rfl) rfl ?_
          exact ⟨rfl, hb.out⟩
        · have hx2 : 24 < x := by omega
          go_wp2_with fail
          (try simp only [Exit.inBlock, Exit.then])
          refine bodyPost_ret (by simp [results, Tryd.results8, go_sem]; try rfl) rfl ?_
          exact ⟨rfl, hb.out⟩
    · obtain rfl : j = l.length := by omega
      rw [List.take_length] at hok gb
      have h1 := hrS.out
      have h2 := hrE.out
      rw [hok] at h1 h2
      rw [if_pos rfl] at h1
      subst h1 h2
      have hsl := setOf_lt l
      have hmb := fun i hi => marks_bit hok i hi
      have hml := marks_length l
      have hpart := high_part (setOf l)
      have hdiv := fun k => Nat.div_le_self (setOf l) (2 ^ k)
      have h32 : setOf l / 2 ^ 32 = 0 := Nat.div_eq_of_lt (by simpa using hsl)
      clear hrS hrE hin hne hok
      generalize marks l = m at *
      generalize hSS : setOf l = S at *
      replace hSS := Lib.hid hSS
      replace hmb := Lib.hid hmb
      replace hml := Lib.hid hml
      replace hpart := Lib.hid hpart
      replace hdiv := Lib.hid hdiv
      replace h32 := Lib.hid h32
      replace gb := Lib.hid gb
      replace hb := Lib.hid hb
      go_wp2_with fail
      obtain ⟨wo, rfl⟩ : ∃ wo : World, wo = wr := ⟨_, rfl⟩
      go_loopw [6, 7] (fun v i wi => ∃ k : Nat, k ≤ 32 ∧ i = .int .i64 ((k : Int) - 1) ∧ v = .int .u32 ((S / 2 ^ k : Nat) : Int) ∧ IsB wi w.heap.size m ∧ Below w.heap.size w wi) (fun _ i _ => (intOf i + 1).toNat)
      case atStart => exact ⟨32, Nat.le_refl _, rfl, by rw [h32.out]; rfl, gb.out, hb.out⟩
      case round =>
        clear gb hb
        obtain ⟨k, hk, rfl, rfl, gb, hb⟩ := hrel
        by_cases hk0 : 0 < k
        · obtain ⟨i, rfl⟩ : ∃ i, k = i + 1 := ⟨k - 1, by omega⟩
          rw [show (((i + 1 : Nat) : Int)) - 1 = (i : Int) by omega]
          have hi0 : (0 : Int) ≤ (i : Int) := by omega
          have hi32 : (i : Int) < 32 := by omega
          have cv := gb.cell i (by rw [hml.out]; omega)
          rw [hmb.out i (by rw [hml.out]; omega)] at cv
          have hp := hpart.out i
          have hd := hdiv.out i
          generalize S.testBit i = b at *
          obtain ⟨q, hq⟩ : ∃ q, S / 2 ^ i = q := ⟨_, rfl⟩
          obtain ⟨p, hp2⟩ : ∃ p, S / 2 ^ (i + 1) = p := ⟨_, rfl⟩
          rw [hq] at hp hd
          rw [hp2] at hp
          rw [hp2]
          replace hq := Lib.hid hq
          replace hp2 := Lib.hid hp2
          replace gb := Lib.hid gb
          replace hb := Lib.hid hb
          cases b with
          | false =>
            rw [if_neg (by decide)] at hp
            have e1 : IntKind.u32.wrap ((p : Int) * 2) = (p : Int) * 2 := IntWalk.u32_in _ (by omega)
            replace hp := Lib.hid hp
            go_wp2_with fail
            go_roundw
            case rel => exact ⟨i, by omega, by go_num, by rw [hq.out, hp.out]; simp [Int.mul_comm], gb.out, hb.out⟩
            case measure => simp [intOf]
          | true =>
            rw [if_pos rfl] at hp
            have e1 : IntKind.u32.wrap ((p : Int) * 2) = (p : Int) * 2 := IntWalk.u32_in _ (by omega)
            have e2 : IntKind.u32.wrap ((p : Int) * 2 + 1) = (p : Int) * 2 + 1 := IntWalk.u32_in _ (by omega)
            replace hp := Lib.hid hp
            go_wp2_with fail
            go_roundw
            case rel => exact ⟨i, by omega, by go_num, by rw [hq.out, hp.out]; simp [Int.mul_comm], gb.out, hb.out⟩
            case measure => simp [intOf]
        · obtain rfl : k = 0 := by omega
          rw [show ((0 : Nat) : Int) - 1 = -1 from rfl, Nat.pow_zero, Nat.div_one]
          replace gb := Lib.hid gb
          replace hb := Lib.hid hb
          go_wp2_with fail
          (try simp only [Exit.inBlock, Exit.then])
          refine bodyPost_ret (by simp [results, Tryd.results8, go_sem]; try rfl) rfl ?_
          exact ⟨by rw [hSS.out], hb.out⟩
end Go.Proofs.YtmikhngmclngiaaDoor
