/- the walk over SigTexts (printed by gen_stexts.py) -/
import Derived.Test.YtmikhngmclngiaaDoorSgTw
import Derived.Test.YtmikhngmclngiaaDoorSgA
namespace Go.Proofs.YtmikhngmclngiaaDoor
open Go.RowKit
open Rf
open Sg
open Wide
set_option maxRecDepth 100000 in
set_option maxHeartbeats 16000000 in
theorem sigTexts_c (w : World) (hg : Glob w) (s : Nat) (l : List Int) (a : Option Addr) (c : Nat) (t : ByteArray) (hs : s < 4294967296) (hL : l.length ≤ maxLen) (hin : InI w a l) (hc : l.length ≤ c) (hc63 : c ≤ maxLen) (ht : t.size ≤ maxLen) :
    Calls Tryd.prog 3 #[.int .u32 (s : Int), .slice a l.length c, .string t] w fun e w' => e = .returned (.bool true) ∧ Below w.heap.size w w' := by
  have cw := awake_c w hg
  replace cw := Lib.hid cw
  by_cases hL1 : 40 < (l.length : Int)
  · clear hin hg hc hc63
    replace hL := Lib.hid hL
    replace ht := Lib.hid ht
    go_enter Tryd.func3, Tryd.ntmps3
    go_wp2_with fail
    refine cw.out.mono ?_
    rintro e w1 ⟨rfl, hb⟩
    replace hb := Lib.hid hb
    go_wp2_with fail
    go_ret
    exact ⟨rfl, hb.out⟩
  by_cases hT1 : 100 < (t.size : Int)
  · clear hin hg hc hc63
    replace hL := Lib.hid hL
    replace ht := Lib.hid ht
    go_enter Tryd.func3, Tryd.ntmps3
    go_wp2_with fail
    refine cw.out.mono ?_
    rintro e w1 ⟨rfl, hb⟩
    replace hb := Lib.hid hb
    go_wp2_with fail
    go_ret
    exact ⟨rfl, hb.out⟩
  have hl40 : l.length ≤ 40 := by omega
  have ht100 : t.size ≤ 100 := by omega
  clear hL ht
  have hLe : (l.length : Int) ≤ 40 := by omega
  have cO := fun w h => of_c l (by omega) a c w h
  have cR := fun w h => refOf_c l (by omega) a c w h
  have cQ := refParse_c t (by omega)
  have cP := fun w h => parse_c t (by omega) w h
  rw [parse_ref t] at cP
  have cX := text_c s hs
  have cY := refText_c s hs
  have cA := fun a c w h => parts_c l (by omega) a c w h
  rw [parts_tw l] at cA
  have cH := fun j n w h => lawHas0_c (l.take j) (by rw [List.length_take]; omega) a c n w h
  obtain ⟨S, hS⟩ : ∃ S, setOf l = S := ⟨_, rfl⟩
  rw [hS] at cO cR cA
  clear hS
  obtain ⟨m, hm⟩ : ∃ m, (refP (byts t)).1 = m := ⟨_, rfl⟩
  obtain ⟨was, hwas⟩ : ∃ b, (refP (byts t)).2 = b := ⟨_, rfl⟩
  rw [hm] at cP cQ
  rw [hwas] at cP cQ
  clear hm hwas
  have e1 : ((S : Int) != (S : Int)) = false := by simp
  have e2 : ((m : Int) == (m : Int)) = true := beq_self_eq_true _
  have e3 : ((text (textS s)).toList == (text (textS s)).toList) = true := beq_self_eq_true _
  obtain ⟨i0, hi, hz0, hz1, hz2⟩ := info_parts infoPart
  generalize text (textS s) = tx at *
  replace cX := Lib.hid cX
  replace cY := Lib.hid cY
  replace cQ := Lib.hid cQ
  replace cP := Lib.hid cP
  replace cO := Lib.hid cO
  replace cR := Lib.hid cR
  replace cA := Lib.hid cA
  replace cH := Lib.hid cH
  replace hg := Lib.hid hg
  replace hin := Lib.hid hin
  replace hc := Lib.hid hc
  replace hc63 := Lib.hid hc63
  replace hl40 := Lib.hid hl40
  replace ht100 := Lib.hid ht100
  replace hLe := Lib.hid hLe
  replace e1 := Lib.hid e1
  replace e2 := Lib.hid e2
  replace e3 := Lib.hid e3
  obtain ⟨ok, hok⟩ : ∃ b, okL l = b := ⟨_, rfl⟩
  rw [hok] at cO cR cA
  clear hok
  cases ok with
  | false =>
    go_enter Tryd.func3, Tryd.ntmps3
    go_wp2_with fail
    refine cw.out.mono ?_
    rintro e w1 ⟨rfl, hb⟩
    have cR1 := Lib.hid (cR.out w1 (hin.out.below hb))
    replace hb := Lib.hid hb
    clear cw cR
    go_wp2_with fail
    refine cR1.out.mono ?_
    rintro e w2 ⟨rfl, hb1⟩
    replace hb := below_up hb.out hb.out.size hb1
    clear hb1 cR1
    have cO1 := Lib.hid (cO.out w2 (hin.out.below hb))
    replace hb := Lib.hid hb
    clear cO
    have e1' := e1.out
    go_wp2_with fail
    refine cO1.out.mono ?_
    rintro e w3 ⟨rfl, hb1⟩
    replace hb := below_up hb.out hb.out.size hb1
    clear hb1 cO1
    replace hb := Lib.hid hb
    go_wp2_with fail
    have hb4 := hb.out.alloc hb.out.size (.cells #[] 35)
    have hown4 : OwnP (w3.alloc (.cells #[] 35)) w.heap.size (some ⟨w3.heap.size, 0, none⟩) 0 [] := (OwnP.nil w3).mono hb.out.size
    replace hown4 := Lib.hid hown4
    replace hb4 := Lib.hid hb4
    clear hb
    go_loopw [11, 12, 13] (fun v b i wr => ∃ j : Nat, j ≤ l.length ∧ i = .int .i64 j ∧ b = .bool (tw (l.take j)) ∧ (∃ x y, v = .slice x (l.take j).length y ∧ OwnP wr w.heap.size x y (l.take j)) ∧ Below w.heap.size w wr) (fun _ _ i _ => l.length - (intOf i).toNat)
    case atStart => exact ⟨0, Nat.zero_le _, rfl, rfl, ⟨_, _, rfl, hown4.out⟩, hb4.out⟩
    case round =>
      clear hb4 hown4
      obtain ⟨j, hj, rfl, rfl, ⟨x, y, rfl, hown⟩, hb⟩ := hrel
      have hsz := hb.size
      by_cases hlt : j < l.length
      · have hin2 := hin.out.below hb
        obtain ⟨g, o, hga, hgl, hcell⟩ := hin2.at j hlt
        have hst : l.take (j + 1) = l.take j ++ [l[j]] := List.take_succ_eq_append_getElem hlt
        have htw : tw (l.take (j + 1)) = (tw (l.take j) || decide (l[j] ∈ l.take j)) := by rw [hst, tw_snoc]
        have hH := fun n => cH.out j l[j] (wr.drewN n) (InI.drewN (hin2.take j))
        have hlen : (l.take j).length = j := by rw [List.length_take]; omega
        rw [hlen] at hH
        have hltI : (j : Int) < (l.length : Int) := by omega
        have hjc : (j : Int) ≤ (c : Int) := by have := hc.out; omega
        have hj0 : (0 : Int) ≤ (j : Int) := by omega
        subst hga
        generalize l[j] = z at *
        obtain ⟨dm, hdm⟩ : ∃ r, decide (z ∈ l.take j) = r := ⟨_, rfl⟩
        rw [hdm] at hH htw
        clear hdm
        generalize hL0 : l.take j = L at *
        generalize hL' : l.take (j + 1) = L' at *
        generalize tw L = fl at *
        replace hL0 := Lib.hid hL0
        replace hL' := Lib.hid hL'
        replace hst := Lib.hid hst
        replace hown := Lib.hid hown
        replace hb := Lib.hid hb
        replace hlen := Lib.hid hlen
        replace hin2 := Lib.hid hin2
        replace htw := Lib.hid htw
        replace hH := Lib.hid hH
        cases fl with
        | true =>
          have htw' : tw L' = true := by rw [htw.out]; rfl
          replace htw' := Lib.hid htw'
          clear htw hH
          go_wp2_with fail
          go_quiet (fail)
          have hb1 := hb.out.trans (show Below w.heap.size wr (wr.drewN nq) from below_drewN (Below.refl _ _))
          have hsz1 := hb1.size
          have hown1 : OwnP (wr.drewN nq) w.heap.size x y L := hown.out.below (below_drewN (Below.refl _ _))
          obtain ⟨wd, hwd⟩ : ∃ wd, wr.drewN nq = wd := ⟨_, rfl⟩
          have hcell1 : wd.cell? ⟨g, o + j, none⟩ = some (.int .i64 z) := by rw [← hwd]; exact hcell
          rw [hwd] at hb1 hown1 hsz1
          rw [hwd]
          clear hwd hcell hb hown hin2
          replace hb1 := Lib.hid hb1
          replace hown1 := Lib.hid hown1
          have hsrc := src_part wd z
          go_wp2_with (at_builtin; refine wpList_append_own_src _ rfl (.tmp 75) (.tmp 81) 31 31 rfl w.heap.size 35 i0 (.agg #[.int .i64 0, .slice none 0 0]) 2 32 Tryd.underlying31 hi hz0 hz1 hz2 rfl rfl (hown1.out.alloc _) rfl hsrc ?_ ?_ ?_ ?_)
          · have := hlen.out; have := hl40.out; unfold maxLen; omega
          · have := hlen.out; have := hl40.out; omega
          · (try rw [size_alloc]); omega
          intro b' c' w2 hown3 hg1
          have hfin := Lib.hid (Below.grown (hb1.out.alloc hsz1 (.cells #[.int .i64 z, .slice none 0 0] 35)) hg1 (by rw [size_alloc]; omega) (fun q hq => by have := World.ownsRow.lt hown1.out q hq; omega))
          rw [show ([.int .i64 z, .slice none 0 0] : List Value) = pv [z] from rfl, ← pv_append] at hown3
          have hown4 : OwnP w2 w.heap.size b' c' (L ++ [z]) := by
            unfold OwnP
            rw [List.length_append]
            exact hown3
          replace hown4 := Lib.hid hown4
          clear hown3 hg1 hsrc hown1 hb1
          go_wp2_with fail
          go_roundw
          case rel => exact ⟨j + 1, by omega, by go_num, by rw [hL'.out, htw'.out], ⟨b', c', by rw [hL'.out, hst.out, List.length_append]; rfl, by rw [hL'.out, hst.out]; exact hown4.out⟩, hfin.out⟩
          case measure => simp [intOf]; omega
        | false =>
          have htw' : tw L' = dm := by rw [htw.out]; rfl
          replace htw' := Lib.hid htw'
          clear htw
          have hH1 := fun n => hH.out n
          clear hH
          go_wp2_with fail
          go_quiet (first | (exact Calls.quiet_of_same (hH1 _)))
          clear hH1
          have hb1 := hb.out.trans (show Below w.heap.size wr (wr.drewN nq) from below_drewN (Below.refl _ _))
          have hsz1 := hb1.size
          have hown1 : OwnP (wr.drewN nq) w.heap.size x y L := hown.out.below (below_drewN (Below.refl _ _))
          obtain ⟨wd, hwd⟩ : ∃ wd, wr.drewN nq = wd := ⟨_, rfl⟩
          have hcell1 : wd.cell? ⟨g, o + j, none⟩ = some (.int .i64 z) := by rw [← hwd]; exact hcell
          rw [hwd] at hb1 hown1 hsz1
          rw [hwd]
          clear hwd hcell hb hown hin2
          replace hb1 := Lib.hid hb1
          replace hown1 := Lib.hid hown1
          have hsrc := src_part wd z
          go_wp2_with (at_builtin; refine wpList_append_own_src _ rfl (.tmp 75) (.tmp 81) 31 31 rfl w.heap.size 35 i0 (.agg #[.int .i64 0, .slice none 0 0]) 2 32 Tryd.underlying31 hi hz0 hz1 hz2 rfl rfl (hown1.out.alloc _) rfl hsrc ?_ ?_ ?_ ?_)
          · have := hlen.out; have := hl40.out; unfold maxLen; omega
          · have := hlen.out; have := hl40.out; omega
          · (try rw [size_alloc]); omega
          intro b' c' w2 hown3 hg1
          have hfin := Lib.hid (Below.grown (hb1.out.alloc hsz1 (.cells #[.int .i64 z, .slice none 0 0] 35)) hg1 (by rw [size_alloc]; omega) (fun q hq => by have := World.ownsRow.lt hown1.out q hq; omega))
          rw [show ([.int .i64 z, .slice none 0 0] : List Value) = pv [z] from rfl, ← pv_append] at hown3
          have hown4 : OwnP w2 w.heap.size b' c' (L ++ [z]) := by
            unfold OwnP
            rw [List.length_append]
            exact hown3
          replace hown4 := Lib.hid hown4
          clear hown3 hg1 hsrc hown1 hb1
          go_wp2_with fail
          go_roundw
          case rel => exact ⟨j + 1, by omega, by go_num, by rw [hL'.out, htw'.out], ⟨b', c', by rw [hL'.out, hst.out, List.length_append]; rfl, by rw [hL'.out, hst.out]; exact hown4.out⟩, hfin.out⟩
          case measure => simp [intOf]; omega
      · obtain rfl : j = l.length := by omega
        rw [List.take_length] at hown ⊢
        have cA1 := cA.out x y wr hown.inP
        obtain ⟨f, hf⟩ : ∃ f, tw l = f := ⟨_, rfl⟩
        rw [hf] at cA1
        rw [hf]
        clear hf hown cA cH
        replace cA1 := Lib.hid cA1
        replace hb := Lib.hid hb
        go_wp2_with fail
        refine cA1.out.mono ?_
        rintro e w2 ⟨rfl, hb1⟩
        replace hb := Lib.hid (below_up hb.out hb.out.size hb1)
        clear hb1 cA1
        go_wp2_with fail
        refine (cQ.out.on _).mono ?_
        rintro e w3 ⟨rfl, hb1⟩
        replace hb := below_up hb.out hb.out.size hb1
        clear hb1 cQ
        have cP1 := Lib.hid (cP.out w3 (hg.out.below hb hg.out.sz))
        replace hb := Lib.hid hb
        clear cP
        cases was with
        | false =>
          go_wp2_with fail
          refine cP1.out.mono ?_
          rintro e w4 ⟨rfl, hb1⟩
          replace hb := Lib.hid (below_up hb.out hb.out.size hb1)
          clear hb1 cP1
          go_wp2_with fail
          refine (cX.out.on _).mono ?_
          rintro e w5 ⟨rfl, hb1⟩
          replace hb := Lib.hid (below_up hb.out hb.out.size hb1)
          clear hb1 cX
          have e2' := e2.out
          have e3' := e3.out
          go_wp2_with fail
          refine (cY.out.on _).mono ?_
          rintro e w6 ⟨rfl, hb1⟩
          replace hb := Lib.hid (below_up hb.out hb.out.size hb1)
          clear hb1 cY
          go_wp2_with fail
          go_ret
          exact ⟨rfl, hb.out⟩
        | true =>
          go_wp2_with fail
          refine cP1.out.mono ?_
          rintro e w4 ⟨rfl, hb1⟩
          replace hb := Lib.hid (below_up hb.out hb.out.size hb1)
          clear hb1 cP1
          go_wp2_with fail
          refine (cX.out.on _).mono ?_
          rintro e w5 ⟨rfl, hb1⟩
          replace hb := Lib.hid (below_up hb.out hb.out.size hb1)
          clear hb1 cX
          have e2' := e2.out
          have e3' := e3.out
          go_wp2_with fail
          refine (cY.out.on _).mono ?_
          rintro e w6 ⟨rfl, hb1⟩
          replace hb := Lib.hid (below_up hb.out hb.out.size hb1)
          clear hb1 cY
          go_wp2_with fail
          go_ret
          exact ⟨rfl, hb.out⟩
  | true =>
    go_enter Tryd.func3, Tryd.ntmps3
    go_wp2_with fail
    refine cw.out.mono ?_
    rintro e w1 ⟨rfl, hb⟩
    have cR1 := Lib.hid (cR.out w1 (hin.out.below hb))
    replace hb := Lib.hid hb
    clear cw cR
    go_wp2_with fail
    refine cR1.out.mono ?_
    rintro e w2 ⟨rfl, hb1⟩
    replace hb := below_up hb.out hb.out.size hb1
    clear hb1 cR1
    have cO1 := Lib.hid (cO.out w2 (hin.out.below hb))
    replace hb := Lib.hid hb
    clear cO
    have e1' := e1.out
    go_wp2_with fail
    refine cO1.out.mono ?_
    rintro e w3 ⟨rfl, hb1⟩
    replace hb := below_up hb.out hb.out.size hb1
    clear hb1 cO1
    replace hb := Lib.hid hb
    go_wp2_with fail
    have hb4 := hb.out.alloc hb.out.size (.cells #[] 35)
    have hown4 : OwnP (w3.alloc (.cells #[] 35)) w.heap.size (some ⟨w3.heap.size, 0, none⟩) 0 [] := (OwnP.nil w3).mono hb.out.size
    replace hown4 := Lib.hid hown4
    replace hb4 := Lib.hid hb4
    clear hb
    go_loopw [11, 12, 13] (fun v b i wr => ∃ j : Nat, j ≤ l.length ∧ i = .int .i64 j ∧ b = .bool (tw (l.take j)) ∧ (∃ x y, v = .slice x (l.take j).length y ∧ OwnP wr w.heap.size x y (l.take j)) ∧ Below w.heap.size w wr) (fun _ _ i _ => l.length - (intOf i).toNat)
    case atStart => exact ⟨0, Nat.zero_le _, rfl, rfl, ⟨_, _, rfl, hown4.out⟩, hb4.out⟩
    case round =>
      clear hb4 hown4
      obtain ⟨j, hj, rfl, rfl, ⟨x, y, rfl, hown⟩, hb⟩ := hrel
      have hsz := hb.size
      by_cases hlt : j < l.length
      · have hin2 := hin.out.below hb
        obtain ⟨g, o, hga, hgl, hcell⟩ := hin2.at j hlt
        have hst : l.take (j + 1) = l.take j ++ [l[j]] := List.take_succ_eq_append_getElem hlt
        have htw : tw (l.take (j + 1)) = (tw (l.take j) || decide (l[j] ∈ l.take j)) := by rw [hst, tw_snoc]
        have hH := fun n => cH.out j l[j] (wr.drewN n) (InI.drewN (hin2.take j))
        have hlen : (l.take j).length = j := by rw [List.length_take]; omega
        rw [hlen] at hH
        have hltI : (j : Int) < (l.length : Int) := by omega
        have hjc : (j : Int) ≤ (c : Int) := by have := hc.out; omega
        have hj0 : (0 : Int) ≤ (j : Int) := by omega
        subst hga
        generalize l[j] = z at *
        obtain ⟨dm, hdm⟩ : ∃ r, decide (z ∈ l.take j) = r := ⟨_, rfl⟩
        rw [hdm] at hH htw
        clear hdm
        generalize hL0 : l.take j = L at *
        generalize hL' : l.take (j + 1) = L' at *
        generalize tw L = fl at *
        replace hL0 := Lib.hid hL0
        replace hL' := Lib.hid hL'
        replace hst := Lib.hid hst
        replace hown := Lib.hid hown
        replace hb := Lib.hid hb
        replace hlen := Lib.hid hlen
        replace hin2 := Lib.hid hin2
        replace htw := Lib.hid htw
        replace hH := Lib.hid hH
        cases fl with
        | true =>
          have htw' : tw L' = true := by rw [htw.out]; rfl
          replace htw' := Lib.hid htw'
          clear htw hH
          go_wp2_with fail
          go_quiet (fail)
          have hb1 := hb.out.trans (show Below w.heap.size wr (wr.drewN nq) from below_drewN (Below.refl _ _))
          have hsz1 := hb1.size
          have hown1 : OwnP (wr.drewN nq) w.heap.size x y L := hown.out.below (below_drewN (Below.refl _ _))
          obtain ⟨wd, hwd⟩ : ∃ wd, wr.drewN nq = wd := ⟨_, rfl⟩
          have hcell1 : wd.cell? ⟨g, o + j, none⟩ = some (.int .i64 z) := by rw [← hwd]; exact hcell
          rw [hwd] at hb1 hown1 hsz1
          rw [hwd]
          clear hwd hcell hb hown hin2
          replace hb1 := Lib.hid hb1
          replace hown1 := Lib.hid hown1
          have hsrc := src_part wd z
          go_wp2_with (at_builtin; refine wpList_append_own_src _ rfl (.tmp 75) (.tmp 81) 31 31 rfl w.heap.size 35 i0 (.agg #[.int .i64 0, .slice none 0 0]) 2 32 Tryd.underlying31 hi hz0 hz1 hz2 rfl rfl (hown1.out.alloc _) rfl hsrc ?_ ?_ ?_ ?_)
          · have := hlen.out; have := hl40.out; unfold maxLen; omega
          · have := hlen.out; have := hl40.out; omega
          · (try rw [size_alloc]); omega
          intro b' c' w2 hown3 hg1
          have hfin := Lib.hid (Below.grown (hb1.out.alloc hsz1 (.cells #[.int .i64 z, .slice none 0 0] 35)) hg1 (by rw [size_alloc]; omega) (fun q hq => by have := World.ownsRow.lt hown1.out q hq; omega))
          rw [show ([.int .i64 z, .slice none 0 0] : List Value) = pv [z] from rfl, ← pv_append] at hown3
          have hown4 : OwnP w2 w.heap.size b' c' (L ++ [z]) := by
            unfold OwnP
            rw [List.length_append]
            exact hown3
          replace hown4 := Lib.hid hown4
          clear hown3 hg1 hsrc hown1 hb1
          go_wp2_with fail
          go_roundw
          case rel => exact ⟨j + 1, by omega, by go_num, by rw [hL'.out, htw'.out], ⟨b', c', by rw [hL'.out, hst.out, List.length_append]; rfl, by rw [hL'.out, hst.out]; exact hown4.out⟩, hfin.out⟩
          case measure => simp [intOf]; omega
        | false =>
          have htw' : tw L' = dm := by rw [htw.out]; rfl
          replace htw' := Lib.hid htw'
          clear htw
          have hH1 := fun n => hH.out n
          clear hH
          go_wp2_with fail
          go_quiet (first | (exact Calls.quiet_of_same (hH1 _)))
          clear hH1
          have hb1 := hb.out.trans (show Below w.heap.size wr (wr.drewN nq) from below_drewN (Below.refl _ _))
          have hsz1 := hb1.size
          have hown1 : OwnP (wr.drewN nq) w.heap.size x y L := hown.out.below (below_drewN (Below.refl _ _))
          obtain ⟨wd, hwd⟩ : ∃ wd, wr.drewN nq = wd := ⟨_, rfl⟩
          have hcell1 : wd.cell? ⟨g, o + j, none⟩ = some (.int .i64 z) := by rw [← hwd]; exact hcell
          rw [hwd] at hb1 hown1 hsz1
          rw [hwd]
          clear hwd hcell hb hown hin2
          replace hb1 := Lib.hid hb1
          replace hown1 := Lib.hid hown1
          have hsrc := src_part wd z
          go_wp2_with (at_builtin; refine wpList_append_own_src _ rfl (.tmp 75) (.tmp 81) 31 31 rfl w.heap.size 35 i0 (.agg #[.int .i64 0, .slice none 0 0]) 2 32 Tryd.underlying31 hi hz0 hz1 hz2 rfl rfl (hown1.out.alloc _) rfl hsrc ?_ ?_ ?_ ?_)
          · have := hlen.out; have := hl40.out; unfold maxLen; omega
          · have := hlen.out; have := hl40.out; omega
          · (try rw [size_alloc]); omega
          intro b' c' w2 hown3 hg1
          have hfin := Lib.hid (Below.grown (hb1.out.alloc hsz1 (.cells #[.int .i64 z, .slice none 0 0] 35)) hg1 (by rw [size_alloc]; omega) (fun q hq => by have := World.ownsRow.lt hown1.out q hq; omega))
          rw [show ([.int .i64 z, .slice none 0 0] : List Value) = pv [z] from rfl, ← pv_append] at hown3
          have hown4 : OwnP w2 w.heap.size b' c' (L ++ [z]) := by
            unfold OwnP
            rw [List.length_append]
            exact hown3
          replace hown4 := Lib.hid hown4
          clear hown3 hg1 hsrc hown1 hb1
          go_wp2_with fail
          go_roundw
          case rel => exact ⟨j + 1, by omega, by go_num, by rw [hL'.out, htw'.out], ⟨b', c', by rw [hL'.out, hst.out, List.length_append]; rfl, by rw [hL'.out, hst.out]; exact hown4.out⟩, hfin.out⟩
          case measure => simp [intOf]; omega
      · obtain rfl : j = l.length := by omega
        rw [List.take_length] at hown ⊢
        have cA1 := cA.out x y wr hown.inP
        obtain ⟨f, hf⟩ : ∃ f, tw l = f := ⟨_, rfl⟩
        rw [hf] at cA1
        rw [hf]
        clear hf hown cA cH
        replace cA1 := Lib.hid cA1
        replace hb := Lib.hid hb
        cases f with
        | false =>
          go_wp2_with fail
          refine cA1.out.mono ?_
          rintro e w2 ⟨rfl, hb1⟩
          replace hb := Lib.hid (below_up hb.out hb.out.size hb1)
          clear hb1 cA1
          go_wp2_with fail
          refine (cQ.out.on _).mono ?_
          rintro e w3 ⟨rfl, hb1⟩
          replace hb := below_up hb.out hb.out.size hb1
          clear hb1 cQ
          have cP1 := Lib.hid (cP.out w3 (hg.out.below hb hg.out.sz))
          replace hb := Lib.hid hb
          clear cP
          cases was with
          | false =>
            go_wp2_with fail
            refine cP1.out.mono ?_
            rintro e w4 ⟨rfl, hb1⟩
            replace hb := Lib.hid (below_up hb.out hb.out.size hb1)
            clear hb1 cP1
            go_wp2_with fail
            refine (cX.out.on _).mono ?_
            rintro e w5 ⟨rfl, hb1⟩
            replace hb := Lib.hid (below_up hb.out hb.out.size hb1)
            clear hb1 cX
            have e2' := e2.out
            have e3' := e3.out
            go_wp2_with fail
            refine (cY.out.on _).mono ?_
            rintro e w6 ⟨rfl, hb1⟩
            replace hb := Lib.hid (below_up hb.out hb.out.size hb1)
            clear hb1 cY
            go_wp2_with fail
            go_ret
            exact ⟨rfl, hb.out⟩
          | true =>
            go_wp2_with fail
            refine cP1.out.mono ?_
            rintro e w4 ⟨rfl, hb1⟩
            replace hb := Lib.hid (below_up hb.out hb.out.size hb1)
            clear hb1 cP1
            go_wp2_with fail
            refine (cX.out.on _).mono ?_
            rintro e w5 ⟨rfl, hb1⟩
            replace hb := Lib.hid (below_up hb.out hb.out.size hb1)
            clear hb1 cX
            have e2' := e2.out
            have e3' := e3.out
            go_wp2_with fail
            refine (cY.out.on _).mono ?_
            rintro e w6 ⟨rfl, hb1⟩
            replace hb := Lib.hid (below_up hb.out hb.out.size hb1)
            clear hb1 cY
            go_wp2_with fail
            go_ret
            exact ⟨rfl, hb.out⟩
        | true =>
          go_wp2_with fail
          refine cA1.out.mono ?_
          rintro e w2 ⟨rfl, hb1⟩
          replace hb := Lib.hid (below_up hb.out hb.out.size hb1)
          clear hb1 cA1
          go_wp2_with fail
          refine (cQ.out.on _).mono ?_
          rintro e w3 ⟨rfl, hb1⟩
          replace hb := below_up hb.out hb.out.size hb1
          clear hb1 cQ
          have cP1 := Lib.hid (cP.out w3 (hg.out.below hb hg.out.sz))
          replace hb := Lib.hid hb
          clear cP
          cases was with
          | false =>
            go_wp2_with fail
            refine cP1.out.mono ?_
            rintro e w4 ⟨rfl, hb1⟩
            replace hb := Lib.hid (below_up hb.out hb.out.size hb1)
            clear hb1 cP1
            go_wp2_with fail
            refine (cX.out.on _).mono ?_
            rintro e w5 ⟨rfl, hb1⟩
            replace hb := Lib.hid (below_up hb.out hb.out.size hb1)
            clear hb1 cX
            have e2' := e2.out
            have e3' := e3.out
            go_wp2_with fail
            refine (cY.out.on _).mono ?_
            rintro e w6 ⟨rfl, hb1⟩
            replace hb := Lib.hid (below_up hb.out hb.out.size hb1)
            clear hb1 cY
            go_wp2_with fail
            go_ret
            exact ⟨rfl, hb.out⟩
          | true =>
            go_wp2_with fail
            refine cP1.out.mono ?_
            rintro e w4 ⟨rfl, hb1⟩
            replace hb := Lib.hid (below_up hb.out hb.out.size hb1)
            clear hb1 cP1
            go_wp2_with fail
            refine (cX.out.on _).mono ?_
            rintro e w5 ⟨rfl, hb1⟩
            replace hb := Lib.hid (below_up hb.out hb.out.size hb1)
            clear hb1 cX
            have e2' := e2.out
            have e3' := e3.out
            go_wp2_with fail
            refine (cY.out.on _).mono ?_
            rintro e w6 ⟨rfl, hb1⟩
            replace hb := Lib.hid (below_up hb.out hb.out.size hb1)
            clear hb1 cY
            go_wp2_with fail
            go_ret
            exact ⟨rfl, hb.out⟩
end Go.Proofs.YtmikhngmclngiaaDoor
