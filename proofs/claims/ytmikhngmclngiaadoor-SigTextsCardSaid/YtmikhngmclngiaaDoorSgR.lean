/- the walks over retrofitref10: ids, and whether a set can be -/
import Derived.Test.YtmikhngmclngiaaDoorSgB
namespace Go.Proofs.YtmikhngmclngiaaDoor
open Go.RowKit
open Rf
open Sg

theorem IsB.grown {w w' : World} {b : Nat} {l : List Bool} {row : Option Nat} (h : IsB w b l) (hg : w.grownBy w' row) (hne : row ≠ some b) : IsB w' b l := (hg.block b h.lt (fun e => hne e.symm)).trans h
theorem OwnI.mono {w : World} {B B' : Nat} {a : Option Addr} {c : Nat} {l : List Int} (h : OwnI w B a c l) (hB : B' ≤ B) : OwnI w B' a c l := by
  refine ⟨h.1, ?_⟩
  rcases h.2 with h2 | ⟨g, cap, cur, h3, h4, h5⟩
  · exact .inl h2
  · exact .inr ⟨g, cap, cur, h3, by omega, h5⟩
theorem OwnI.own {w : World} {B : Nat} {a : Option Addr} {c : Nat} {l : List Int} (h : OwnI w B a c l) (b : Nat) (hb : b < B) : (Value.slice a l.length c).ownBlock ≠ some b := fun e => by
  have := World.ownsRow.lt h b e
  omega
theorem bitsL_length (n : Nat) : (bitsL n).length = 32 := bitsTo_length n 32
set_option maxRecDepth 100000 in
set_option maxHeartbeats 4000000 in
theorem refIds_c (s : Nat) (hs : s < 4294967296) : RetInts 24 #[.int .u32 (s : Int)] (ids s) := fun w => by
  obtain ⟨i0, hi, hz0, hz1, hz2⟩ := info_parts infoInt
  have cb := bits_c s hs
  have hbl := bitsL_length s
  replace cb := Lib.hid cb
  go_enter Tryd.func24, Tryd.ntmps24
  go_wp2_with fail
  refine (cb.out.on _).mono ?_
  rintro e w1 ⟨rfl, hb⟩
  have gb0 := (IsB.new w1 (bitsL s)).alloc (.cells #[] 3)
  have hb0 := ((hb.alloc hb.size (oB (bitsL s))).alloc (by have := hb.size; rw [size_alloc]; omega) (.cells #[] 3))
  have hown0 : OwnI ((w1.alloc (oB (bitsL s))).alloc (.cells #[] 3)) (w1.heap.size + 1) (some ⟨w1.heap.size + 1, 0, none⟩) 0 [] := by
    have := ownsRow_lit (w1.alloc (oB (bitsL s))) (w1.heap.size + 1) 3 [] 0 (by rw [size_alloc]; omega) rfl (by unfold maxLen; omega)
    rw [size_alloc] at this
    exact this
  have hq := hb.size
  clear hb
  replace gb0 := Lib.hid gb0
  replace hb0 := Lib.hid hb0
  replace hown0 := Lib.hid hown0
  go_wp2_with (first | (with_reducible refine wpl_balloc rfl rfl ?_) | (with_reducible refine wpl_bstore_new rfl rfl rfl rfl rfl rfl hbl ?_))
  go_loopw [4, 5] (fun b i wr => ∃ k : Nat, k ≤ 24 ∧ i = .int .i64 ((k : Int) + 1) ∧ (∃ a c, b = .slice a (idsFrom s 1 k).length c ∧ OwnI wr (w1.heap.size + 1) a c (idsFrom s 1 k)) ∧ IsB wr w1.heap.size (bitsL s) ∧ Below w.heap.size w wr) (fun _ i _ => 25 - (intOf i).toNat)
  case atStart => exact ⟨0, Nat.zero_le _, rfl, ⟨some ⟨w1.heap.size + 1, 0, none⟩, 0, rfl, hown0.out⟩, gb0.out, hb0.out⟩
  case round =>
    clear gb0 hb0 hown0
    obtain ⟨k, hk, rfl, ⟨a, c, rfl, hown⟩, gb, hb⟩ := hrel
    have hsz := hb.size
    by_cases hlt : k < 24
    · have cv := gb.cell (1 + k) (by rw [hbl]; omega)
      rw [bitsL_get s (1 + k) (by omega)] at cv
      have hsn := idsFrom_snoc s 1 k
      have hln := idsFrom_len s 1 k
      have hI1 : (k : Int) + 1 ≤ 24 := by omega
      have hI2 : (k : Int) + 1 < 32 := by omega
      have hI3 : ((k : Int) + 1).toNat = 1 + k := by omega
      generalize hL : idsFrom s 1 k = L at *
      replace hL := Lib.hid hL
      generalize hL' : idsFrom s 1 (k + 1) = L' at *
      replace hL' := Lib.hid hL'
      generalize s.testBit (1 + k) = b at *
      replace hsn := Lib.hid hsn
      replace gb := Lib.hid gb
      replace hown := Lib.hid hown
      replace hb := Lib.hid hb
      obtain ⟨q, hq2⟩ : ∃ q, 1 + k = q := ⟨_, rfl⟩
      rw [hq2] at cv hI3
      have hI4 : (k : Int) + 1 = (q : Int) := by omega
      have hI5 : (q : Int) ≤ 24 := by omega
      have hI6 : (q : Int) < 32 := by omega
      rw [hI4]
      clear hI1 hI2 hI3
      replace hq2 := Lib.hid hq2
      replace hI4 := Lib.hid hI4
      cases b with
      | false =>
        have hsn' := hsn.out
        rw [if_neg (by decide), List.append_nil] at hsn'
        subst hsn'
        clear hsn
        go_wp2_with fail
        go_roundw
        case rel => exact ⟨k + 1, by omega, by have := hI4.out; go_num, ⟨a, c, by rw [hL'.out], by rw [hL'.out]; exact hown.out⟩, gb.out, hb.out⟩
        case measure => simp [intOf]; omega
      | true =>
        have hsrc := src_one wr (q : Int)
        go_wp2_with (at_builtin; refine wpList_append_own_src _ rfl (.tmp 16) (.tmp 18) 23 23 rfl (w1.heap.size + 1) 3 i0 (.int .i64 0) 1 8 Tryd.underlying23 hi hz0 hz1 hz2 rfl rfl (hown.out.alloc _) rfl hsrc ?_ ?_ ?_ ?_)
        · unfold maxLen; omega
        · omega
        · have := gb.out.lt; (try simp only [size_alloc]); omega
        intro b' c' w2 hown2 hg1
        have hlt1 := gb.out.lt
        have hfin := Lib.hid (Below.grown (hb.out.alloc hsz (.cells #[.int .i64 (q : Int)] 3)) hg1 (by rw [size_alloc]; omega) (fun r hr => by have := World.ownsRow.lt hown.out r hr; omega))
        have gb2 := Lib.hid ((gb.out.alloc (.cells #[.int .i64 (q : Int)] 3)).grown hg1 (OwnI.own hown.out _ (by omega)))
        rw [show ([.int .i64 (q : Int)] : List Value) = iv [(q : Int)] from rfl, ← iv_append] at hown2
        have hsn' := hsn.out
        rw [if_pos trivial, hq2.out] at hsn'
        replace hsn' := Lib.hid hsn'
        have hown3 : OwnI w2 (w1.heap.size + 1) b' c' (L ++ [(q : Int)]) := by
          unfold OwnI
          rw [List.length_append]
          exact hown2
        replace hown3 := Lib.hid hown3
        clear hown2 hg1 hsrc hown hb hsn gb
        go_wp2_with fail
        go_roundw
        case rel => exact ⟨k + 1, by omega, by have := hI4.out; go_num, ⟨b', c', by rw [hL'.out, hsn'.out, List.length_append]; rfl, by rw [hL'.out, hsn'.out]; exact hown3.out⟩, gb2.out, hfin.out⟩
        case measure => have := hI4.out; simp [intOf]; omega
    · obtain rfl : k = 24 := by omega
      replace gb := Lib.hid gb
      go_wp2_with fail
      go_ret
      exact ⟨a, c, rfl, hown.mono (by omega), hb⟩
end Go.Proofs.YtmikhngmclngiaaDoor
