/- the walk over retrofitref10.Text -/
import Derived.Test.YtmikhngmclngiaaDoorSgX
namespace Go.Proofs.YtmikhngmclngiaaDoor
open Go.RowKit
open Rf
open Sg
open Wide

theorem join_snoc (xs : List (List UInt8)) (y : List UInt8) (h : xs ≠ []) : Lib.join (xs ++ [y]) [43] = Lib.join xs [43] ++ [43] ++ y := by
  cases xs with
  | nil => exact absurd rfl h
  | cons x r =>
    rw [List.cons_append, Lib.join_cons, Lib.join_cons]
    unfold Lib.joinTail
    simp
set_option maxRecDepth 100000 in
set_option maxHeartbeats 4000000 in
theorem refText_c (s : Nat) (hs : s < 4294967296) : Ret 15 #[.int .u32 (s : Int)] (.string (text (textS s))) := fun w => by
  have ci := refIds_c s hs
  have hid := fun (i : Int) (h : i ∈ ids s) => ids_id h
  have hle := ids_le s
  obtain ⟨res, hres⟩ : ∃ res, textS s = res := ⟨_, rfl⟩
  rw [hres]
  unfold textS at hres
  generalize ids s = L at *
  replace ci := Lib.hid ci
  by_cases h0 : L.length = 0
  · rw [if_pos h0] at hres
    subst hres
    have e1 : ((L.length : Int) == 0) = true := by simp [h0]
    clear h0
    go_enter Tryd.func15, Tryd.ntmps15
    go_wp2_with fail
    refine (ci.out.on _).mono ?_
    rintro e w2 ⟨a, c, rfl, hown, hb2⟩
    clear hown
    go_wp2_with fail
    go_ret
    exact ⟨rfl, hb2⟩
  · rw [if_neg h0] at hres
    have e1 : ((L.length : Int) == 0) = false := beq_eq_false_iff_ne.2 (by omega)
    replace hres := Lib.hid hres
    go_enter Tryd.func15, Tryd.ntmps15
    go_wp2_with fail
    refine (ci.out.on _).mono ?_
    rintro e w2 ⟨a, c, rfl, hown, hb2⟩
    have hin := hown.in
    clear hown
    replace hb2 := Lib.hid hb2
    replace hin := Lib.hid hin
    go_wp2_with fail
    go_loopw [4, 5] (fun t i wr => ∃ j : Nat, j ≤ L.length ∧ i = .int .i64 j ∧ t = .string (text (Lib.join ((L.take j).map dgt) [43])) ∧ InI wr a L ∧ Below w.heap.size w wr) (fun _ i _ => L.length - (intOf i).toNat)
    case atStart => exact ⟨0, Nat.zero_le _, rfl, rfl, hin.out, hb2.out⟩
    case round =>
      clear hin hb2
      obtain ⟨j, hj, rfl, rfl, hin, hb⟩ := hrel
      by_cases hlt : j < L.length
      · obtain ⟨g, o, hga, hg, hc⟩ := hin.at j hlt
        subst hga
        have hjb := join_bd ((L.take j).map dgt) (fun x hx => by
          obtain ⟨i, hi, rfl⟩ := List.mem_map.1 hx
          have hi := List.mem_of_mem_take hi
          exact dgt_len (hid i hi).1 (hid i hi).2)
        rw [List.length_map, List.length_take] at hjb
        have hst : (L.take (j + 1)).map dgt = (L.take j).map dgt ++ [dgt L[j]] := by
          rw [List.take_succ_eq_append_getElem hlt, List.map_append]
          rfl
        have hltI : (j : Int) < (L.length : Int) := by omega
        have hj0 : (L.take j).map dgt = [] ↔ j = 0 := by
          rw [List.map_eq_nil_iff, List.take_eq_nil_iff]
          constructor
          · rintro (h | h)
            · exact h
            · rw [h] at hlt; cases hlt
          · exact fun h => .inl h
        obtain ⟨x1, x2⟩ := hid L[j] (List.getElem_mem hlt)
        have hdl := dgt_len x1 x2
        generalize L[j] = x at *
        obtain ⟨n, rfl⟩ : ∃ n : Nat, x = n := ⟨x.toNat, by omega⟩
        have cI := digits_c n (by omega)
        have hdn : dgt (n : Int) = digs n := by unfold dgt; rw [Int.toNat_natCast]
        rw [hdn] at hst hdl
        have hsz := hb.size
        obtain ⟨t, ht⟩ : ∃ t, digs n = t := ⟨_, rfl⟩
        rw [ht] at hst cI hdl
        obtain ⟨X, hX⟩ : ∃ X, (L.take j).map dgt = X := ⟨_, rfl⟩
        rw [hX] at hst hjb hj0
        rw [hX]
        have hnext : Lib.join ((L.take (j + 1)).map dgt) [43] = if j = 0 then t else Lib.join X [43] ++ [43] ++ t := by
          rw [hst]
          by_cases h : j = 0
          · rw [if_pos h, hj0.2 h, List.nil_append, Lib.join_one]
          · rw [if_neg h, join_snoc X t (fun hh => h (hj0.1 hh))]
        have hJ0 : j = 0 → Lib.join X [43] = [] := fun h => by rw [hj0.2 h]; rfl
        generalize Lib.join X [43] = J at *
        clear ht hX hst hdn hj0 hres
        replace cI := Lib.hid cI
        replace hnext := Lib.hid hnext
        replace hin := Lib.hid hin
        replace hb := Lib.hid hb
        by_cases hz : j = 0
        · subst hz
          have hJ := hJ0 rfl
          subst hJ
          rw [Nat.add_zero] at hc
          rw [show ((0 : Nat) : Int) = 0 from rfl]
          clear hJ0
          have hs1 : (text []).size + (text t).size ≤ 1000 := by rw [text_size, text_size]; simp only [List.length_nil]; omega
          go_wp2_with fail
          refine (cI.out.on _).mono ?_
          rintro e w3 ⟨rfl, hb3⟩
          have hin3 := Lib.hid (hin.out.below hb3)
          have hfin := Lib.hid (below_up hb.out hsz hb3)
          clear hb3 hin hb
          go_wp2_with fail
          rw [text_append]
          go_roundw
          case rel => exact ⟨1, by omega, rfl, by rw [hnext.out]; rfl, hin3.out, hfin.out⟩
          case measure => simp [intOf]; omega
        · have hjp : (0 : Int) < (j : Int) := by omega
          clear hJ0
          have hs1 : (text J).size + (⟨#[43]⟩ : ByteArray).size ≤ 1000 := by rw [text_size]; show _ + 1 ≤ _; omega
          have hs2 : (text J ++ ⟨#[43]⟩).size + (text t).size ≤ 1000 := by
            rw [show (⟨#[43]⟩ : ByteArray) = text [43] from rfl, text_append, text_size, text_size, List.length_append]
            simp only [List.length_cons, List.length_nil]
            omega
          go_wp2_with fail
          refine (cI.out.on _).mono ?_
          rintro e w3 ⟨rfl, hb3⟩
          have hin3 := Lib.hid (hin.out.below hb3)
          have hfin := Lib.hid (below_up hb.out hsz hb3)
          clear hb3 hin hb
          go_wp2_with fail
          go_roundw
          case rel => exact ⟨j + 1, by omega, by go_num, by rw [hnext.out, if_neg hz, ← text_append, ← text_append]; rfl, hin3.out, hfin.out⟩
          case measure => simp [intOf]; omega
      · obtain rfl : j = L.length := by omega
        rw [List.take_length, hres.out]
        clear hin
        replace hb := Lib.hid hb
        go_wp2_with fail
        go_ret
        exact ⟨rfl, hb.out⟩
end Go.Proofs.YtmikhngmclngiaaDoor
