/- the walk over sig.Parts -/
import Derived.Test.YtmikhngmclngiaaDoorSgZ
namespace Go.Proofs.YtmikhngmclngiaaDoor
open Go.RowKit
open Rf
open Sg

/-- parts without values that can be read at a slice -/
def InP (w : World) (a : Option Addr) (l : List Int) : Prop := l = [] ∨ ∃ g o, a = some ⟨g, o, none⟩ ∧ g < w.heap.size ∧ ∀ j (hj : j < l.length), w.cell? ⟨g, o + j * 2, none⟩ = some (.int .i64 l[j]) ∧ w.cell? ⟨g, o + j * 2 + 1, none⟩ = some (.slice none 0 0)
theorem InP.below {w w' : World} {B : Nat} {a : Option Addr} {l : List Int} (h : InP w a l) (hb : Below B w w') (hB : w.heap.size ≤ B) : InP w' a l := by
  rcases h with rfl | ⟨g, o, rfl, hg, hc⟩
  · exact .inl rfl
  · exact .inr ⟨g, o, rfl, Nat.lt_of_lt_of_le hg hb.size, fun j hj => ⟨by rw [hb.cell (p := ⟨g, o + j * 2, none⟩) (show g < B by omega)]; exact (hc j hj).1, by rw [hb.cell (p := ⟨g, o + j * 2 + 1, none⟩) (show g < B by omega)]; exact (hc j hj).2⟩⟩
theorem InP.at {w : World} {a : Option Addr} {l : List Int} (h : InP w a l) (j : Nat) (hj : j < l.length) : ∃ g o, a = some ⟨g, o, none⟩ ∧ g < w.heap.size ∧ w.cell? ⟨g, o + j * 2, none⟩ = some (.int .i64 l[j]) ∧ w.cell? ⟨g, o + j * 2 + 1, none⟩ = some (.slice none 0 0) := by
  rcases h with rfl | ⟨g, o, h1, h2, h3⟩
  · cases hj
  · exact ⟨g, o, h1, h2, h3 j hj⟩
namespace Sg
def partsF (l : List Int) : Nat × Int := if okL l = true then (if (ids (setOf l)).length = l.length then (setOf l, 0) else (0, 7)) else (0, 1)
end Sg
set_option maxRecDepth 100000 in
set_option maxHeartbeats 8000000 in
theorem parts_c (l : List Int) (hL : l.length ≤ 100000) (a : Option Addr) (c : Nat) (w : World) (hin : InP w a l) :
    Calls Tryd.prog 11 #[.slice a l.length c] w fun e w' => e = .returned (.tuple #[.int .u32 (((partsF l).1 : Nat) : Int), .int .i64 (partsF l).2]) ∧ Below w.heap.size w w' := by
  obtain ⟨i0, hi, hz0, hz1, hz2⟩ := info_parts infoInt
  obtain ⟨R, hR⟩ : ∃ r, partsF l = r := ⟨_, rfl⟩
  rw [hR]
  replace hR := Lib.hid hR
  replace hin := Lib.hid hin
  go_enter Tryd.func11, Tryd.ntmps11
  go_wp2_with fail
  go_loopw [4, 11] (fun b i wr => ∃ j : Nat, j ≤ l.length ∧ i = .int .i64 j ∧ (∃ a c, b = .slice a (l.take j).length c ∧ OwnI wr w.heap.size a c (l.take j)) ∧ Below w.heap.size w wr) (fun _ i _ => l.length - (intOf i).toNat)
  case atStart => exact ⟨0, Nat.zero_le _, rfl, ⟨none, 0, rfl, OwnI.nil w _⟩, Below.refl _ _⟩
  case round =>
    obtain ⟨j, hj, rfl, ⟨b, d, rfl, hown⟩, hb⟩ := hrel
    have hsz := hb.size
    by_cases hlt : j < l.length
    · obtain ⟨g, o, hga, hg, hc0, hc1⟩ := (hin.out.below hb (Nat.le_refl _)).at j hlt
      subst hga
      have hst : l.take (j + 1) = l.take j ++ [l[j]] := List.take_succ_eq_append_getElem hlt
      have hlen : (l.take j).length = j := by rw [List.length_take]; omega
      have hltI : (j : Int) < (l.length : Int) := by omega
      generalize l[j] = x at *
      generalize l.take j = L at *
      generalize hL' : l.take (j + 1) = L' at *
      replace hL' := Lib.hid hL'
      have hb2 := hb.alloc hsz (.cells #[.int .i64 x, .slice none 0 0] 35)
      have hown2 := hown.alloc (.cells #[.int .i64 x, .slice none 0 0] 35)
      replace hst := Lib.hid hst
      replace hown := Lib.hid hown
      replace hb := Lib.hid hb
      replace hb2 := Lib.hid hb2
      replace hown2 := Lib.hid hown2
      replace hlen := Lib.hid hlen
      go_upto_region 5 with fail
      obtain ⟨W, hW⟩ : ∃ W, wr.alloc (.cells #[.int .i64 x, .slice none 0 0] 35) = W := ⟨_, rfl⟩
      have hnc : W.cell? ⟨wr.heap.size, 0, none⟩ = some (.int .i64 x) := by rw [← hW]; exact (IsC.new wr 35 #[.int .i64 x, .slice none 0 0]).cell 0
      rw [hW] at hb2 hown2
      rw [hW]
      replace hW := Lib.hid hW
      have hsz2 := hb2.out.size
      have hsrc := src_one W x
      go_wp2_with (at_builtin; refine wpList_append_own_src _ rfl (.tmp 15) (.tmp 18) 23 23 rfl w.heap.size 3 i0 (.int .i64 0) 1 8 Tryd.underlying23 hi hz0 hz1 hz2 rfl rfl (hown2.out.alloc _) rfl hsrc ?_ ?_ ?_ ?_)
      · have := hlen.out; unfold maxLen; omega
      · have := hlen.out; omega
      · (try rw [size_alloc]); omega
      intro b' c' w2 hown3 hg1
      have hfin := Lib.hid (Below.grown (hb2.out.alloc hsz2 (.cells #[.int .i64 x] 3)) hg1 (by rw [size_alloc]; omega) (fun q hq => by have := World.ownsRow.lt hown2.out q hq; omega))
      rw [show ([.int .i64 x] : List Value) = iv [x] from rfl, ← iv_append] at hown3
      have hown4 : OwnI w2 w.heap.size b' c' (L ++ [x]) := by
        unfold OwnI
        rw [List.length_append]
        exact hown3
      replace hown4 := Lib.hid hown4
      clear hown3 hg1 hsrc hown hown2 hb hb2
      go_wp2_with fail
      go_roundw
      case rel => exact ⟨j + 1, by omega, by go_num, ⟨b', c', by rw [hL'.out, hst.out, List.length_append]; rfl, by rw [hL'.out, hst.out]; exact hown4.out⟩, hfin.out⟩
      case measure => simp [intOf]; omega
    · obtain rfl : j = l.length := by omega
      rw [List.take_length] at hown ⊢
      have co := of_c l (by omega) b d wr hown.in
      have hsl := setOf_lt l
      have hr := hR.out
      unfold partsF at hr
      cases hok : okL l with
      | false =>
        rw [hok] at hr co
        rw [if_neg (by decide)] at hr co
        rw [if_neg (by decide)] at co
        subst hr
        clear hR hown hok
        replace hb := Lib.hid hb
        replace co := Lib.hid co
        go_wp2_with fail
        refine co.out.mono ?_
        rintro e w2 ⟨rfl, hb2⟩
        have hfin := below_up hb.out hsz hb2
        go_wp2_with fail
        (try simp only [Exit.inBlock, Exit.then])
        refine bodyPost_ret (by simp [results, Tryd.results11, go_sem]; try rfl) rfl ?_
        exact ⟨rfl, hfin⟩
      | true =>
        rw [hok] at hr co
        rw [if_pos rfl] at hr co
        rw [if_pos rfl] at co
        have cl := len_c (setOf l) hsl
        generalize setOf l = S at *
        by_cases hn : (ids S).length = l.length
        · rw [if_pos hn] at hr
          rw [hn] at cl
          subst hr
          have e1 : ((l.length : Int) != (l.length : Int)) = false := by simp
          clear hR hown hok hn
          replace hb := Lib.hid hb
          replace co := Lib.hid co
          replace cl := Lib.hid cl
          go_wp2_with fail
          refine co.out.mono ?_
          rintro e w2 ⟨rfl, hb2⟩
          have hfin := below_up hb.out hsz hb2
          have hq := hfin.size
          go_wp2_with fail
          refine (cl.out.on _).mono ?_
          rintro e w3 ⟨rfl, hb3⟩
          have hfin2 := below_up hfin hq hb3
          go_wp2_with fail
          (try simp only [Exit.inBlock, Exit.then])
          refine bodyPost_ret (by simp [results, Tryd.results11, go_sem]; try rfl) rfl ?_
          exact ⟨rfl, hfin2⟩
        · rw [if_neg hn] at hr
          subst hr
          generalize (ids S).length = q at *
          have e1 : ((q : Int) != (l.length : Int)) = true := bne_iff_ne.2 (by omega)
          clear hR hown hok hn
          replace hb := Lib.hid hb
          replace co := Lib.hid co
          replace cl := Lib.hid cl
          go_wp2_with fail
          refine co.out.mono ?_
          rintro e w2 ⟨rfl, hb2⟩
          have hfin := below_up hb.out hsz hb2
          have hq := hfin.size
          go_wp2_with fail
          refine (cl.out.on _).mono ?_
          rintro e w3 ⟨rfl, hb3⟩
          have hfin2 := below_up hfin hq hb3
          go_wp2_with fail
          (try simp only [Exit.inBlock, Exit.then])
          refine bodyPost_ret (by simp [results, Tryd.results11, go_sem]; try rfl) rfl ?_
          exact ⟨rfl, hfin2⟩
end Go.Proofs.YtmikhngmclngiaaDoor
