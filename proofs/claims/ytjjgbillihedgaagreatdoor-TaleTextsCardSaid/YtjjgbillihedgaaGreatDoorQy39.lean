/- parts of the proof, merged: TlV5 -/
import Derived.Test.YtjjgbillihedgaaGreatDoorQy14
import Derived.Test.YtjjgbillihedgaaGreatDoorQy25
import Derived.Test.YtjjgbillihedgaaGreatDoorQy38
set_option linter.unusedSimpArgs false
set_option linter.unusedVariables false
set_option maxHeartbeats 64000000
set_option maxRecDepth 100000
namespace Go.Proofs.YtjjgbillihedgaaGreatDoor
open Go.RowKit
open Rf
open Sg
open Wide
open Tl
namespace Tl
def rcE : Option (Int × List PartD) → Int
 | none => 0
 | some p => p.1
def rcP : Option (Int × List PartD) → List PartD
 | none => []
 | some p => p.2
def rcB : Option (Int × List PartD) → Bool
 | none => false
 | some _ => true
def lastC (l : List PartD) : Int := prevC l l.length
theorem lastC_snoc (l : List PartD) (p : PartD) : lastC (l ++ [p]) = p.C := by
 unfold lastC
 rw [List.length_append]
 show (match (l ++ [p])[l.length]? with | some p => p.C | none => 0) = _
 rw [List.getElem?_append_right (Nat.le_refl _)]
 simp
theorem rparts_none {acc : List PartD} {x : List UInt8} {r : List (List UInt8)} {R : Option (List PartD)} (h : (rpartsL (lastC acc) (x :: r)).map (acc ++ ·) = R) (hn : rpartF (lastC acc) x = none) : R = none := by
 rw [← h, rpartsL, hn]
 rfl
theorem rparts_some {acc : List PartD} {x : List UInt8} {r : List (List UInt8)} {R : Option (List PartD)} {p : PartD} (h : (rpartsL (lastC acc) (x :: r)).map (acc ++ ·) = R) (hn : rpartF (lastC acc) x = some p) : (rpartsL (lastC (acc ++ [p])) r).map ((acc ++ [p]) ++ ·) = R := by
 rw [← h, rpartsL, hn, lastC_snoc]
 dsimp only
 rw [Option.map_map]
 congr 1
 funext l
 simp
theorem num19_bd (l : List UInt8) : 0 ≤ num19F l ∧ num19F l ≤ 4294967295 := by
 unfold num19F
 split
 ·omega
 split
 ·split <;> omega
 ·omega
theorem two_of {l : List (List UInt8)} (h : l.length = 2) : ∃ a b, l = [a, b] := by
 match l, h with
 | [a, b], _ => exact ⟨a, b, rfl⟩
end Tl
theorem ownQ_lit0 (w : World) (B : Nat) (hb : B ≤ w.heap.size) : OwnQ (w.alloc (.cells #[] 65)) B (some ⟨w.heap.size, 0, none⟩) 0 [] :=
 ⟨[], rfl, ⟨rfl, .inr ⟨w.heap.size, 0, #[], rfl, hb, heap_alloc_new w _, Nat.le_refl _, by unfold maxLen; omega, rfl, rfl⟩⟩, by simp⟩
theorem rcut_c (s : ByteArray) (hs : s.size ≤ 100000) (w : World) : Calls Tryz.prog 78 #[.string s] w fun x w' => (∃ a c, x = .returned (.tuple #[.int .u64 (rcE (rcutF (byts s))), .slice a (rcP (rcutF (byts s))).length c, .bool (rcB (rcutF (byts s)))]) ∧ OwnQ w' w.heap.size a c (rcP (rcutF (byts s)))) ∧ Below w.heap.size w w' := by
 obtain ⟨i0, hi, hz0, hz1, hz2⟩ := info_parts infoWI
 obtain ⟨j0, hj, hy0, hy1, hy2⟩ := info_parts infoPart
 have cS := rsplit_c s (by omega) 32 w
 have hml := segsQ_mem 32 (byts s)
 have hWl := segsQ_len 32 (byts s)
 rw [byts_length] at hml hWl
 obtain ⟨R, hR⟩ : ∃ R, rcutF (byts s) = R := ⟨_, rfl⟩
 rw [hR]
 unfold rcutF at hR
 generalize segsQ 32 (byts s) = Ws at *
 obtain ⟨n, hn⟩ : ∃ n, Ws.length = n := ⟨_, rfl⟩
 rw [hn] at cS hWl hR
 replace hml := Hd hml
 replace hn := Hd hn
 replace cS := Hd cS
 go_enter Tryz.func78, Tryz.ntmps78
 go_wp2_with fail
 refine cS.out.mono ?_
 rintro x w1 ⟨⟨a, c', rfl, hown⟩, hb1⟩
 replace hb1 := Hd hb1
 clear cS
 by_cases g3 : 3 ≤ n
 ·have g3I : ¬ (n : Int) < 3 := by omega
  obtain ⟨g, rfl, _⟩ := OwnS.addr hown (by intro e; have := hn.out; rw [e] at this; simp at this; omega)
  have r0 := OwnS.cell hown 0 (by rw [hn.out]; omega)
  have r1 := OwnS.cell hown 1 (by rw [hn.out]; omega)
  have r2 := OwnS.cell hown 2 (by rw [hn.out]; omega)
  have q1 : (1 : Int) < (n : Int) := by omega
  have q2 : (2 : Int) < (n : Int) := by omega
  have q0 : (0 : Int) < (n : Int) := by omega
  have d0 : Ws.getD 0 [] = Ws[0]'(by rw [hn.out]; omega) := by rw [List.getD_eq_getElem?_getD, List.getElem?_eq_getElem (by rw [hn.out]; omega)]; rfl
  have d1 : Ws.getD 1 [] = Ws[1]'(by rw [hn.out]; omega) := by rw [List.getD_eq_getElem?_getD, List.getElem?_eq_getElem (by rw [hn.out]; omega)]; rfl
  have d2 : Ws.getD 2 [] = Ws[2]'(by rw [hn.out]; omega) := by rw [List.getD_eq_getElem?_getD, List.getElem?_eq_getElem (by rw [hn.out]; omega)]; rfl
  rw [d0, d1, d2] at hR
  have hl1 := hml.out (Ws[1]'(by rw [hn.out]; omega)) (List.getElem_mem _)
  have hl2 := hml.out (Ws[2]'(by rw [hn.out]; omega)) (List.getElem_mem _)
  clear d0 d1 d2
  generalize Ws[0]'(by rw [hn.out]; omega) = G0 at *
  generalize Ws[1]'(by rw [hn.out]; omega) = G1 at *
  generalize Ws[2]'(by rw [hn.out]; omega) = G2 at *
  have hc0 := bytes_eq (text G0) ⟨#[101]⟩
  rw [byts_text, show byts ⟨#[101]⟩ = [101] from rfl, show (⟨#[101]⟩ : ByteArray).toList = [101] by rw [toList_byts]; rfl] at hc0
  have c1 := num19_c (text G1) (by rw [text_size]; omega)
  have c2 := num19_c (text G2) (by rw [text_size]; omega)
  rw [byts_text] at c1 c2
  have b1 := num19_bd G1
  have b2 := num19_bd G2
  generalize num19F G1 = N1 at *
  generalize num19F G2 = N2 at *
  replace c1 := Hd c1
  replace c2 := Hd c2
  replace hown := Hd hown
  by_cases g0 : G0 = [101]
  ·rw [decide_eq_true g0] at hc0
   replace g0 := Hd g0
   go_wp2_with fail
   refine (c1.out.on _).mono ?_
   rintro x w2 ⟨rfl, rfl⟩
   go_wp2_with fail
   refine (c2.out.on _).mono ?_
   rintro x w3 ⟨rfl, rfl⟩
   clear r0 r1 r2 c1 c2 hc0 q0 q1 q2
   by_cases z1 : N1 = 0
   ·have z1b : (N1 == 0) = true := by rw [z1]; rfl
    rw [if_neg (fun h => h.2.2.1 z1)] at hR
    subst hR
    subst z1
    go_wp2_with fail
    (try simp only [Exit.inBlock, Exit.then])
    refine bodyPost_ret (by simp [results, Tryz.results78, go_sem]; try rfl) rfl ?_
    exact ⟨⟨none, 0, rfl, OwnQ.nil _ _⟩, hb1.out⟩
   have z1b : (N1 == 0) = false := beq_eq_false_iff_ne.2 z1
   by_cases z2 : N2 = 0
   ·have z2b : (N2 == 0) = true := by rw [z2]; rfl
    rw [if_neg (fun h => h.2.2.2 z2)] at hR
    subst hR
    subst z2
    go_wp2_with fail
    (try simp only [Exit.inBlock, Exit.then])
    refine bodyPost_ret (by simp [results, Tryz.results78, go_sem]; try rfl) rfl ?_
    exact ⟨⟨none, 0, rfl, OwnQ.nil _ _⟩, hb1.out⟩
   have z2b : (N2 == 0) = false := beq_eq_false_iff_ne.2 z2
   rw [if_pos ⟨g3, g0.out, z1, z2⟩] at hR
   obtain ⟨R0, hR0⟩ : ∃ R0, rpartsL 0 (Ws.drop 3) = R0 := ⟨_, rfl⟩
   rw [hR0] at hR
   have hb1s := hb1.out.size
   have hb2 := Hd (hb1.out.alloc hb1s (.cells #[] 65))
   have hq0 := Hd (ownQ_lit0 w1 w.heap.size hb1s)
   have hIn2 := Hd (OwnS.below hown.out (below1 w1 (.cells #[] 65)))
   replace hR := Hd hR
   replace hR0 := Hd hR0
   clear hown hb1
   go_wp2_with fail
   go_loopw [8, 9] (fun b i wr => ∃ (j : Nat) (acc : List PartD), 3 ≤ j ∧ j ≤ n ∧ i = .int .i64 j ∧ (∃ a c, b = .slice a acc.length c ∧ OwnQ wr w.heap.size a c acc) ∧ acc.length = j - 3 ∧ (rpartsL (lastC acc) (Ws.drop j)).map (acc ++ ·) = R0 ∧ OwnS wr w.heap.size (some ⟨g, 0, none⟩) c' Ws ∧ Below w.heap.size w wr) (fun _ i _ => n - (intOf i).toNat)
   case atStart => exact ⟨3, [], Nat.le_refl _, g3, rfl, ⟨_, 0, rfl, hq0.out⟩, rfl, by rw [← hR0.out]; show (rpartsL 0 (Ws.drop 3)).map ([] ++ ·) = _; cases rpartsL 0 (Ws.drop 3) <;> rfl, hIn2.out, hb2.out⟩
   case round =>
    clear hb2 hq0 hIn2 hR0
    obtain ⟨j, acc, h3, hjn, rfl, ⟨a, c, rfl, hown⟩, hal, hgo, hIn, hb⟩ := hrel
    have hbz := hb.size
    by_cases hlt : j < n
    ·have hjo : j < Ws.length := by rw [hn.out]; exact hlt
     have hltI : (j : Int) < (n : Int) := by omega
     rw [List.drop_eq_getElem_cons hjo] at hgo
     have hx0 := OwnS.cell hIn j hjo
     have hxl := hml.out Ws[j] (List.getElem_mem hjo)
     generalize Ws[j] = x at *
     generalize hrest : Ws.drop (j + 1) = rest at *
     have c3 := rsplit_c (text x) (by rw [text_size]; omega) 61 wr
     have hpm := segsQ_mem 61 x
     rw [byts_text] at c3
     obtain ⟨ps, hps⟩ : ∃ ps, segsQ 61 x = ps := ⟨_, rfl⟩
     rw [hps] at c3 hpm
     obtain ⟨pl, hpl⟩ : ∃ pl, ps.length = pl := ⟨_, rfl⟩
     rw [hpl] at c3
     replace c3 := Hd c3
     replace hal := Hd hal
     replace hown := Hd hown
     replace hIn := Hd hIn
     replace hb := Hd hb
     replace hgo := Hd hgo
     replace hrest := Hd hrest
     replace hps := Hd hps
     replace hpl := Hd hpl
     replace hpm := Hd hpm
     go_wp2_with fail
     refine c3.out.mono ?_
     rintro e w4 ⟨⟨pa, pc, rfl, hpo⟩, hb4⟩
     replace hown := Hd (hown.out.below hb4)
     replace hIn := Hd (OwnS.below hIn.out hb4)
     have hbB := Hd (below_up hb.out hbz hb4)
     have hPin := Hd (OwnS.in hpo)
     have hw4 := hb4.size
     clear hb4 hb c3 hx0 hpo
     have hbBs := hbB.out.size
     by_cases g2 : pl = 2
     ·subst g2
      obtain ⟨p0, p1, rfl⟩ := two_of hpl.out
      obtain ⟨pg, po, rfl, hpgz, y0⟩ := hPin.out.at 0 (by show 0 < 2; omega)
      obtain ⟨_, _, e, _, y1⟩ := hPin.out.at 1 (by show 1 < 2; omega)
      cases e
      change w4.cell? ⟨pg, po + 0, none⟩ = some (.string (text p0)) at y0
      change w4.cell? ⟨pg, po + 1, none⟩ = some (.string (text p1)) at y1
      rw [Nat.add_zero] at y0
      have hl0 := hpm.out p0 (by simp)
      have hl1' := hpm.out p1 (by simp)
      have c4 := num19_c (text p0) (by rw [text_size]; omega)
      rw [byts_text] at c4
      have bN := num19_bd p0
      have hdash := bytes_eq (text p1) ⟨#[45]⟩
      rw [byts_text, show byts ⟨#[45]⟩ = [45] from rfl, show (⟨#[45]⟩ : ByteArray).toList = [45] by rw [toList_byts]; rfl] at hdash
      have hrp : rpartF (lastC acc) x = if 1 ≤ num19F p0 ∧ num19F p0 ≤ 24 ∧ lastC acc < num19F p0 then (if p1 = [45] then some ⟨num19F p0, []⟩ else if (segsQ 44 p1).length ≤ 100 ∧ (segsQ 44 p1).all goodT = true then some ⟨num19F p0, valsR (segsQ 44 p1)⟩ else none) else none := by
       unfold rpartF
       rw [hps.out]
       rfl
      generalize num19F p0 = NN at *
      replace hrp := Hd hrp
      replace c4 := Hd c4
      replace hdash := Hd hdash
      go_wp2_with fail
      refine (c4.out.on _).mono ?_
      rintro e w5 ⟨rfl, rfl⟩
      clear c4 y0
      by_cases k1 : NN < 1
      ·have hr := rparts_none hgo.out (by rw [hrp.out, if_neg (by omega)])
       have hr2 := hR.out
       rw [hr] at hr2
       obtain rfl : R = none := hr2.symm
       go_wp2_with fail
       (try simp only [Exit.inBlock, Exit.then])
       refine bodyPost_ret (by simp [results, Tryz.results78, go_sem]; try rfl) rfl ?_
       exact ⟨⟨none, 0, rfl, OwnQ.nil _ _⟩, hbB.out⟩
      by_cases k2 : 24 < NN
      ·have hr := rparts_none hgo.out (by rw [hrp.out, if_neg (by omega)])
       have hr2 := hR.out
       rw [hr] at hr2
       obtain rfl : R = none := hr2.symm
       go_wp2_with fail
       (try simp only [Exit.inBlock, Exit.then])
       refine bodyPost_ret (by simp [results, Tryz.results78, go_sem]; try rfl) rfl ?_
       exact ⟨⟨none, 0, rfl, OwnQ.nil _ _⟩, hbB.out⟩
      have hconv : IntKind.i64.wrap NN = NN := Go.IntWalk.i64_in _ ⟨by omega, by omega⟩
      by_cases k3 : acc.length = 0
      ·have hn0 : acc = [] := List.eq_nil_of_length_eq_zero k3
       have hlc : lastC acc = 0 := by rw [hn0]; rfl
       have k3I : ¬ (0 : Int) < (acc.length : Int) := by omega
       have hcond := Hd (show 1 ≤ NN ∧ NN ≤ 24 ∧ lastC acc < NN from ⟨by omega, by omega, by omega⟩)
       clear hn0 hlc
       replace k3 := Hd k3
       have hp' := hrp.out
       rw [if_pos hcond.out] at hp'
       by_cases kd : p1 = [45]
       ·rw [if_pos kd] at hp'
        have hd := hdash.out
        rw [decide_eq_true kd] at hd
        replace kd := Hd kd
        have hgo2 := Hd (rparts_some hgo.out hp')
        clear hp' hcond
        have hbq := below1 w4 (.cells #[.int .i64 NN, .slice none 0 0] 65)
        have hbx := IsC.new w4 65 #[.int .i64 NN, .slice none 0 0]
        have x0 := hbx.cell 0
        have x1 := hbx.cell 1
        have hbB5 := Hd (hbB.out.alloc hbBs (.cells #[.int .i64 NN, .slice none 0 0] 65))
        replace hown := Hd (hown.out.below hbq)
        replace hIn := Hd (OwnS.below hIn.out hbq)
        have y1' := cell_up y1 hbq
        have hb5s := hbB5.out.size
        clear hbq hbx y1
        obtain ⟨q, hq, hrow, hqv⟩ := hown.out
        have hbr := below1 (w4.alloc (.cells #[.int .i64 NN, .slice none 0 0] 65)) (.cells #[.int .i64 NN, .slice none 0 0] 65)
        have hrow7' := World.ownsRow.alloc hrow (.cells #[.int .i64 NN, .slice none 0 0] 65)
        (try rw [hm.out] at hrow7')
        have hrow7 := Hd hrow7'
        clear hrow7'
        have hqv7 := Hd (fun y hy => (hqv y hy).below hbr)
        have hv7 := Hd (OwnV.below (OwnV.nil (w4.alloc (.cells #[.int .i64 NN, .slice none 0 0] 65)) w.heap.size) hbr)
        have hIn7 := Hd (OwnS.below hIn.out hbr)
        have hb7 := Hd (hbB5.out.alloc hb5s (.cells #[.int .i64 NN, .slice none 0 0] 65))
        have hb7s := hb7.out.size
        have hsrc := src_pd (w4.alloc (.cells #[.int .i64 NN, .slice none 0 0] 65)) NN none 0 0
        rw [size_alloc] at hsrc
        have hacc : acc.length ≤ 200000 := by have := hal.out; omega
        replace hq := Hd hq
        clear hrow hqv hbr
        go_wp2_with (at_builtin; refine wpList_append_own_src _ rfl (.tmp 120) (.tmp 122) 24 24 rfl w.heap.size 65 j0 (.agg #[.int .i64 0, .slice none 0 0]) 2 32 Tryz.underlying24 hj hy0 hy1 hy2 rfl rfl hrow7.out rfl hsrc ?_ ?_ ?_ ?_)
        ·unfold maxLen; omega
        ·omega
        ·exact hb7s
        intro b'' c'' w8 hown8 hg8
        have hlt8 := World.ownsRow.lt hrow7.out
        have hfin := Hd (Below.grown hb7.out hg8 hb7s (fun q hq => (hlt8 q hq).1))
        have hO8 := Hd (show OwnS w8 w.heap.size (some ⟨g, 0, none⟩) c' Ws from World.ownsRow.kept hIn7.out hg8 (own_apart hIn7.out hrow7.out (by decide)))
        have hQ8 : OwnQ w8 w.heap.size b'' c'' (acc ++ [⟨NN, []⟩]) := by
         refine ⟨q ++ [(⟨NN, []⟩, none, 0)], by rw [List.map_append, hq.out]; rfl, ?_, fun y hy => ?_⟩
         ·rw [List.length_append, qvs_append]
          (try rw [hm.out])
          exact hown8
         ·rcases List.mem_append.1 hy with hy | hy
          ·exact World.ownsRow.kept (hqv7.out y hy) hg8 (own_apart (hqv7.out y hy) hrow7.out (by decide))
          ·rw [List.mem_singleton.1 hy]
           exact World.ownsRow.kept hv7.out hg8 (own_apart hv7.out hrow7.out (by decide))
        replace hQ8 := Hd hQ8
        have hal2 := Hd (show (acc ++ [(⟨NN, []⟩ : PartD)]).length = j + 1 - 3 by rw [List.length_append, hal.out]; simp only [List.length_cons, List.length_nil]; omega)
        clear hown8 hg8 hlt8 hsrc hrow7 hb7 hqv7 hv7 hIn7 x0 x1 y1' hown hIn hbB5
        go_wp2_with fail
        go_roundw
        case rel => exact ⟨j + 1, acc ++ [⟨NN, []⟩], by omega, by omega, by go_num, ⟨b'', c'', by rw [List.length_append]; (try rw [hm.out]); rfl, hQ8.out⟩, hal2.out, by rw [hrest.out]; exact hgo2.out, hO8.out, hfin.out⟩
        case measure => simp [intOf]; omega
       ·rw [if_neg kd] at hp'
        have hd := hdash.out
        rw [decide_eq_false kd] at hd
        replace kd := Hd kd
        have hbq := below1 w4 (.cells #[.int .i64 NN, .slice none 0 0] 65)
        have hbx := IsC.new w4 65 #[.int .i64 NN, .slice none 0 0]
        obtain ⟨W5, hW5⟩ : ∃ W5, w4.alloc (.cells #[.int .i64 NN, .slice none 0 0] 65) = W5 := ⟨_, rfl⟩
        have hsW5 : W5.heap.size = w4.heap.size + 1 := by rw [← hW5, size_alloc]
        have y1' := cell_up y1 hbq
        rw [hW5] at hbx hbq
        have hbq4 : Below w4.heap.size w4 W5 := hbq
        have c5 := rsplit_c (text p1) (by rw [text_size]; omega) 44 W5
        rw [byts_text] at c5
        have htm := segsQ_mem 44 p1
        generalize segsQ 44 p1 = ts at *
        obtain ⟨tl, htl⟩ : ∃ tl, ts.length = tl := ⟨_, rfl⟩
        rw [htl] at c5 hp'
        rw [← hW5] at c5
        replace hW5 := Hd hW5
        replace c5 := Hd c5
        replace htm := Hd htm
        replace htl := Hd htl
        replace hp' := Hd hp'
        replace hbx := Hd hbx
        replace hsW5 := Hd hsW5
        have hbq4' := Hd hbq4
        clear hbq y1 hcond hbq4
        go_wp2_with fail
        refine c5.out.mono ?_
        rintro e w6 ⟨⟨ta, tc, rfl, hto⟩, hb6⟩
        rw [hW5.out] at hto hb6
        have hbx6 := Hd (isC_of hb6 hbx.out)
        have hb46 := Hd (below_up hbq4'.out hbq4'.out.size hb6)
        have hb46s := hb46.out.size
        have hto' := Hd hto
        have hsz6 : w4.heap.size + 1 ≤ w6.heap.size := by have := hb6.size; have := hsW5.out; omega
        clear hb6 hbx hbq4' c5 hto y1'
        by_cases g100 : 100 < tl
        ·have g100I : (100 : Int) < (tl : Int) := by omega
         have hr := rparts_none hgo.out (by rw [hp'.out, if_neg (fun h => by omega)])
         have hr2 := hR.out
         rw [hr] at hr2
         obtain rfl : R = none := hr2.symm
         have hbF := Hd (hbB.out.trans (hb46.out.mono hbBs))
         go_wp2_with fail
         (try simp only [Exit.inBlock, Exit.then])
         refine bodyPost_ret (by simp [results, Tryz.results78, go_sem]; try rfl) rfl ?_
         exact ⟨⟨none, 0, rfl, OwnQ.nil _ _⟩, hbF.out⟩
        ·have g100I : ¬ (100 : Int) < (tl : Int) := by omega
         have htin := Hd (OwnS.in hto'.out)
         have htne : ∀ tg tO, ta = some ⟨tg, tO, none⟩ → 0 < tl → tg ≠ w4.heap.size ∧ tg < w6.heap.size := by
          intro tg tO e h0
          subst e
          have hne : ts ≠ [] := fun e => by have := htl.out; rw [e] at this; simp at this; omega
          obtain ⟨tg', e', _⟩ := OwnS.addr hto'.out hne
          cases e'
          exact ⟨own_ne hto'.out hbx6.out (by decide), by obtain ⟨_, _, e2, h2, _⟩ := htin.out.at 0 (by rw [htl.out]; exact h0); cases e2; exact h2⟩
         replace htne := Hd htne
         clear hto'
         go_wp2_with fail
         go_loopw [14] (fun i wr2 => ∃ k : Nat, k ≤ tl ∧ i = .int .i64 k ∧ (ts.take k).all goodT = true ∧ (∃ va vc, IsC wr2 w4.heap.size 65 #[.int .i64 NN, .slice va k vc] ∧ wr2.ownsRow w6.heap.size 61 3 (.slice va k vc) k (wvs (valsR (ts.take k)))) ∧ InT wr2 ta tc ts ∧ Below w4.heap.size w4 wr2 ∧ w6.heap.size ≤ wr2.heap.size) (fun i _ => tl - (intOf i).toNat)
         case atStart => exact ⟨0, Nat.zero_le _, rfl, rfl, ⟨none, 0, hbx6.out, World.ownsRow_nil _ _ _ _⟩, htin.out, hb46.out, Nat.le_refl _⟩
         case round =>
          clear hbx6 htin hb46 hb46s
          obtain ⟨k, hk, rfl, hko, ⟨va, vc, hprt, hown4⟩, hSin, hb0, h6⟩ := hrel
          have hb0s := hb0.size
          by_cases hlk : k < tl
          ·have hkt : k < ts.length := by rw [htl.out]; exact hlk
           obtain ⟨tg, tO, rfl, htg, hcell⟩ := hSin.at k hkt
           obtain ⟨htn1, htn2⟩ := htne.out tg tO rfl (by omega)
           have hlkI : (k : Int) < (tl : Int) := by omega
           have hst : ts.take (k + 1) = ts.take k ++ [ts[k]] := List.take_succ_eq_append_getElem hkt
           have hxl2 := htm.out ts[k] (List.getElem_mem hkt)
           have hmem := List.getElem_mem hkt
           generalize ts[k] = t at *
           have cW : wRet _ _ _ := wrefParse_c (text t) (by rw [text_size]; omega)
           rw [byts_text] at cW
           unfold wRet wv at cW
           have hsa : (ts.take (k + 1)).all goodT = goodT t := by rw [hst, List.all_append, hko, Bool.true_and]; simp
           have hsv : valsR (ts.take (k + 1)) = valsR (ts.take k) ++ [(parseF t).1] := by rw [hst]; unfold valsR; rw [List.map_append]; rfl
           have hall : goodT t = false → ts.all goodT = false := fun h => List.all_eq_false.2 ⟨t, hmem, by rw [h]; decide⟩
           have hgt : goodT t = decide ((parseF t).2 = 0) := rfl
           obtain ⟨⟨X, ex⟩, hXe⟩ : ∃ p, parseF t = p := ⟨_, rfl⟩
           rw [hXe] at cW hsv hgt
           dsimp only at cW hsv hgt
           clear hXe hst hmem
           replace cW := Hd cW
           replace hsa := Hd hsa
           replace hsv := Hd hsv
           replace hall := Hd hall
           replace hgt := Hd hgt
           replace hprt := Hd hprt
           replace hown4 := Hd hown4
           replace hSin := Hd hSin
           replace hb0 := Hd hb0
           replace hko := Hd hko
           replace htn1 := Hd htn1
           go_wp2_with fail
           refine (cW.out _).mono ?_
           rintro e w7 ⟨rfl, hb8⟩
           have hbq := below1 w7 (.cells #[.bool X.n, .int .u64 X.h, .int .u64 X.l] 61)
           have hpr4 := (isC_of hb8 hprt.out).alloc (.cells #[.bool X.n, .int .u64 X.h, .int .u64 X.l] 61)
           have hSi4 := (hSin.out.below hb8).below hbq
           have hb5 := below_up hb0.out hb0s hb8
           have hb6 := hb5.alloc hb5.size (.cells #[.bool X.n, .int .u64 X.h, .int .u64 X.l] 61)
           have hw4' : w6.heap.size ≤ w7.heap.size := Nat.le_trans h6 hb8.size
           have hown5 : (w7.alloc (.cells #[.bool X.n, .int .u64 X.h, .int .u64 X.l] 61)).ownsRow w6.heap.size 61 3 (.slice va k vc) k (wvs (valsR (ts.take k))) :=
            World.ownsRow.alloc (World.ownsRow.kept (row := none) hown4.out ⟨hb8.os, hb8.tape, hb8.output, hb8.size, fun k hk _ => hb8.block k hk⟩ (by cases (Value.slice va k vc).ownBlock <;> simp)) _
           have hint := IsC.new w7 61 #[.bool X.n, .int .u64 X.h, .int .u64 X.l]
           by_cases hex : ex = 0
           ·subst hex
            have i0' := hint.cell 0
            have i1' := hint.cell 1
            have i2' := hint.cell 2
            have p1' := hpr4.cell 1
            have hbn := below1 (w7.alloc (.cells #[.bool X.n, .int .u64 X.h, .int .u64 X.l] 61)) (.cells #[.bool X.n, .int .u64 X.h, .int .u64 X.l] 61)
            have hsrc := src_wi (w7.alloc (.cells #[.bool X.n, .int .u64 X.h, .int .u64 X.l] 61)) X
            rw [size_alloc] at hsrc
            clear hb8 hbq hb5 hint hprt hSin hb0 hown4 hcell htg cW
            replace hpr4 := Hd (hpr4.alloc (.cells #[.bool X.n, .int .u64 X.h, .int .u64 X.l] 61))
            replace hSi4 := Hd (hSi4.below hbn)
            have hb6s := hb6.size
            replace hb6 := Hd (hb6.alloc hb6s (.cells #[.bool X.n, .int .u64 X.h, .int .u64 X.l] 61))
            replace hown5 := Hd (World.ownsRow.alloc hown5 (.cells #[.bool X.n, .int .u64 X.h, .int .u64 X.l] 61))
            clear hbn
            go_wp2_with (at_builtin; refine wpList_append_own_src _ rfl (.tmp 115) (.tmp 117) 63 63 rfl w6.heap.size 61 i0 (.agg #[.bool false, .int .u64 0, .int .u64 0]) 3 24 Tryz.underlying63 hi hz0 hz1 hz2 rfl rfl hown5.out rfl hsrc ?_ ?_ ?_ ?_)
            ·unfold maxLen; omega
            ·omega
            ·rw [size_alloc, size_alloc]; omega
            intro b' c8 w8 hown8 hg8
            have hrow := World.ownsRow.lt hown5.out
            have hpr6 := isC_grown hpr4.out hg8 (fun e => by have := hrow _ e; omega)
            have hSi6 := inT_grown hSi4.out hg8 (fun e => by have := hrow _ e; omega)
            have hb7 := Below.grown hb6.out hg8 (by rw [size_alloc, size_alloc]; omega) (fun q hq => by have := hrow q hq; omega)
            rw [show ([.bool X.n, .int .u64 X.h, .int .u64 X.l] : List Value) = wvs [X] from rfl, ← wvs_append, ← hsv.out] at hown8
            have q0 := hpr6.cell 1
            have q1' := hpr6.f 1
            have hpr7 := Hd (show IsC (w8.setCell ⟨w4.heap.size, 1, none⟩ (.slice b' (k + 1) c8)) w4.heap.size 65 #[.int .i64 NN, .slice b' (k + 1) c8] from hpr6.set 1 (.slice b' (k + 1) c8))
            have hSi7 := Hd (inT_set (i := 1) (v := .slice b' (k + 1) c8) hSi6 htn1.out)
            have hb8' := Hd (hb7.setCell (p := ⟨w4.heap.size, 1, none⟩) (Nat.le_refl _) (.slice b' (k + 1) c8))
            have hown7 := Hd (ownsRow_setCell_below hown8 (a := ⟨w4.heap.size, 1, none⟩) (by show w4.heap.size < w6.heap.size; omega) (.slice b' (k + 1) c8))
            have hsz := hg8.size
            rw [size_alloc, size_alloc] at hsz
            have hgood := Hd (show (ts.take (k + 1)).all goodT = true by rw [hsa.out, hgt.out]; rfl)
            clear hown8 hg8 hrow hpr6 hSi6 hb7 hpr4 hSi4 hb6 hown5 hsrc
            go_wp2_with fail
            go_roundw
            case rel => exact ⟨k + 1, by omega, by go_num, hgood.out, ⟨b', c8, hpr7.out, hown7.out⟩, hSi7.out, hb8'.out, by simp; omega⟩
            case measure => simp [intOf]; omega
           ·have hexb : (ex != 0) = true := bne_iff_ne.2 hex
            have hbad : ts.all goodT = false := hall.out (by rw [hgt.out, decide_eq_false hex])
            have hr := rparts_none hgo.out (by rw [hp'.out, if_neg (fun h => by rw [hbad] at h; exact absurd h.2 (by decide))])
            have hr2 := hR.out
            rw [hr] at hr2
            obtain rfl : R = none := hr2.symm
            have hbF := Hd (hbB.out.trans (hb6.mono hbBs))
            clear hint hown5 hSi4 hpr4 hb5 hbq hb8 hb6 hbad
            go_wp2_with fail
            (try simp only [Exit.inBlock, Exit.then])
            refine bodyPost_ret (by simp [results, Tryz.results78, go_sem]; try rfl) rfl ?_
            exact ⟨⟨none, 0, rfl, OwnQ.nil _ _⟩, hbF.out⟩
          ·obtain rfl : k = tl := by omega
           have htt : ts.take k = ts := List.take_of_length_le (by rw [htl.out]; exact Nat.le_refl _)
           rw [htt] at hko hown4
           have hvl : (valsR ts).length = k := by unfold valsR; rw [List.length_map]; exact htl.out
           have hp2 := hp'.out
           rw [if_pos ⟨by omega, hko⟩] at hp2
           have hgo2 := Hd (rparts_some hgo.out hp2)
           have hOV0 : OwnV wr w6.heap.size va vc (valsR ts) := by
            show World.ownsRow _ _ _ _ (.slice va (valsR ts).length vc) (valsR ts).length _
            rw [hvl]
            exact hown4
           have hOV := OwnV.mono hOV0 (show w.heap.size ≤ w6.heap.size by omega)
           rw [← hvl] at hprt
           have x0 := hprt.cell 0
           have x1 := hprt.cell 1
           have hbB5 := Hd (hbB.out.trans (hb0.mono hbBs))
           have hb5s := hbB5.out.size
           replace hown := Hd (hown.out.below hb0)
           replace hIn := Hd (OwnS.below hIn.out hb0)
           replace hvl := Hd hvl
           clear hprt hSin hb0 hown4 hko hOV0 htt hp2
           obtain ⟨q, hq, hrow, hqv⟩ := hown.out
           have hbr := below1 wr (.cells #[.int .i64 NN, .slice va (valsR ts).length vc] 65)
           have hrow7' := World.ownsRow.alloc hrow (.cells #[.int .i64 NN, .slice va (valsR ts).length vc] 65)
           (try rw [hm.out] at hrow7')
           have hrow7 := Hd hrow7'
           clear hrow7'
           have hqv7 := Hd (fun y hy => (hqv y hy).below hbr)
           have hv7 := Hd (OwnV.below hOV hbr)
           have hIn7 := Hd (OwnS.below hIn.out hbr)
           have hb7 := Hd (hbB5.out.alloc hb5s (.cells #[.int .i64 NN, .slice va (valsR ts).length vc] 65))
           have hb7s := hb7.out.size
           have hsrc := src_pd wr NN va (valsR ts).length vc
           have hacc : acc.length ≤ 200000 := by have := hal.out; omega
           replace hq := Hd hq
           clear hrow hqv hbr
           go_wp2_with (at_builtin; refine wpList_append_own_src _ rfl (.tmp 120) (.tmp 122) 24 24 rfl w.heap.size 65 j0 (.agg #[.int .i64 0, .slice none 0 0]) 2 32 Tryz.underlying24 hj hy0 hy1 hy2 rfl rfl hrow7.out rfl hsrc ?_ ?_ ?_ ?_)
           ·unfold maxLen; omega
           ·omega
           ·exact hb7s
           intro b'' c'' w8 hown8 hg8
           have hlt8 := World.ownsRow.lt hrow7.out
           have hfin := Hd (Below.grown hb7.out hg8 hb7s (fun q hq => (hlt8 q hq).1))
           have hO8 := Hd (show OwnS w8 w.heap.size (some ⟨g, 0, none⟩) c' Ws from World.ownsRow.kept hIn7.out hg8 (own_apart hIn7.out hrow7.out (by decide)))
           have hQ8 : OwnQ w8 w.heap.size b'' c'' (acc ++ [⟨NN, valsR ts⟩]) := by
            refine ⟨q ++ [(⟨NN, valsR ts⟩, va, vc)], by rw [List.map_append, hq.out]; rfl, ?_, fun y hy => ?_⟩
            ·rw [List.length_append, qvs_append]
             (try rw [hm.out])
             exact hown8
            ·rcases List.mem_append.1 hy with hy | hy
             ·exact World.ownsRow.kept (hqv7.out y hy) hg8 (own_apart (hqv7.out y hy) hrow7.out (by decide))
             ·rw [List.mem_singleton.1 hy]
              exact World.ownsRow.kept hv7.out hg8 (own_apart hv7.out hrow7.out (by decide))
           replace hQ8 := Hd hQ8
           have hal2 := Hd (show (acc ++ [(⟨NN, valsR ts⟩ : PartD)]).length = j + 1 - 3 by rw [List.length_append, hal.out]; simp only [List.length_cons, List.length_nil]; omega)
           clear hown8 hg8 hlt8 hsrc hrow7 hb7 hqv7 hv7 hIn7 x0 x1 hown hIn hbB5
           go_wp2_with fail
           go_roundw
           case rel => exact ⟨j + 1, acc ++ [⟨NN, valsR ts⟩], by omega, by omega, by go_num, ⟨b'', c'', by rw [List.length_append]; (try rw [hm.out]); rfl, hQ8.out⟩, hal2.out, by rw [hrest.out]; exact hgo2.out, hO8.out, hfin.out⟩
           case measure => simp [intOf]; omega
      ·have hlp : 0 < acc.length := Nat.pos_of_ne_zero k3
       obtain ⟨m, hm⟩ : ∃ m, acc.length = m + 1 := ⟨acc.length - 1, by omega⟩
       obtain ⟨ag, ao, at', rfl, hagz, z0, _, _⟩ := (OwnQ.in hown.out).at m (by omega)
       have hlc : lastC acc = (acc[m]'(by omega)).C := by
        have e : prevC acc (m + 1) = (acc[m]'(by omega)).C := by
         show (match acc[m]? with | some p => p.C | none => 0) = _
         rw [List.getElem?_eq_getElem (by omega)]
        exact (congrArg (prevC acc) hm).trans e
       rw [← hlc] at z0
       clear hlc
       have hmm : (m : Int) < (acc.length : Int) := by omega
       have hmw : ((acc.length : Int) - 1) = (m : Int) := by omega
       have hlI : (0 : Int) < (acc.length : Int) := by omega
       have hmb : m ≤ 200000 := by have := hal.out; omega
       replace hm := Hd hm
       obtain ⟨LC, hLC⟩ : ∃ LC, lastC acc = LC := ⟨_, rfl⟩
       rw [hLC] at z0
       replace hLC := Hd hLC
       by_cases k4 : NN ≤ LC
       ·have hr := rparts_none hgo.out (by rw [hrp.out, if_neg (by rw [hLC.out]; omega)])
        have hr2 := hR.out
        rw [hr] at hr2
        obtain rfl : R = none := hr2.symm
        go_wp2_with fail
        (try simp only [Exit.inBlock, Exit.then])
        refine bodyPost_ret (by simp [results, Tryz.results78, go_sem]; try rfl) rfl ?_
        exact ⟨⟨none, 0, rfl, OwnQ.nil _ _⟩, hbB.out⟩
       ·have hcond := Hd (show 1 ≤ NN ∧ NN ≤ 24 ∧ lastC acc < NN from ⟨by omega, by omega, by rw [hLC.out]; omega⟩)
        replace k3 := Hd k3
        have hp' := hrp.out
        rw [if_pos hcond.out] at hp'
        by_cases kd : p1 = [45]
        ·rw [if_pos kd] at hp'
         have hd := hdash.out
         rw [decide_eq_true kd] at hd
         replace kd := Hd kd
         have hgo2 := Hd (rparts_some hgo.out hp')
         clear hp' hcond
         have hbq := below1 w4 (.cells #[.int .i64 NN, .slice none 0 0] 65)
         have hbx := IsC.new w4 65 #[.int .i64 NN, .slice none 0 0]
         have x0 := hbx.cell 0
         have x1 := hbx.cell 1
         have hbB5 := Hd (hbB.out.alloc hbBs (.cells #[.int .i64 NN, .slice none 0 0] 65))
         replace hown := Hd (hown.out.below hbq)
         replace hIn := Hd (OwnS.below hIn.out hbq)
         have y1' := cell_up y1 hbq
         have hb5s := hbB5.out.size
         clear hbq hbx y1
         obtain ⟨q, hq, hrow, hqv⟩ := hown.out
         have hbr := below1 (w4.alloc (.cells #[.int .i64 NN, .slice none 0 0] 65)) (.cells #[.int .i64 NN, .slice none 0 0] 65)
         have hrow7' := World.ownsRow.alloc hrow (.cells #[.int .i64 NN, .slice none 0 0] 65)
         (try rw [hm.out] at hrow7')
         have hrow7 := Hd hrow7'
         clear hrow7'
         have hqv7 := Hd (fun y hy => (hqv y hy).below hbr)
         have hv7 := Hd (OwnV.below (OwnV.nil (w4.alloc (.cells #[.int .i64 NN, .slice none 0 0] 65)) w.heap.size) hbr)
         have hIn7 := Hd (OwnS.below hIn.out hbr)
         have hb7 := Hd (hbB5.out.alloc hb5s (.cells #[.int .i64 NN, .slice none 0 0] 65))
         have hb7s := hb7.out.size
         have hsrc := src_pd (w4.alloc (.cells #[.int .i64 NN, .slice none 0 0] 65)) NN none 0 0
         rw [size_alloc] at hsrc
         have hacc : acc.length ≤ 200000 := by have := hal.out; omega
         replace hq := Hd hq
         clear hrow hqv hbr
         go_wp2_with (at_builtin; refine wpList_append_own_src _ rfl (.tmp 120) (.tmp 122) 24 24 rfl w.heap.size 65 j0 (.agg #[.int .i64 0, .slice none 0 0]) 2 32 Tryz.underlying24 hj hy0 hy1 hy2 rfl rfl hrow7.out rfl hsrc ?_ ?_ ?_ ?_)
         ·unfold maxLen; omega
         ·omega
         ·exact hb7s
         intro b'' c'' w8 hown8 hg8
         have hlt8 := World.ownsRow.lt hrow7.out
         have hfin := Hd (Below.grown hb7.out hg8 hb7s (fun q hq => (hlt8 q hq).1))
         have hO8 := Hd (show OwnS w8 w.heap.size (some ⟨g, 0, none⟩) c' Ws from World.ownsRow.kept hIn7.out hg8 (own_apart hIn7.out hrow7.out (by decide)))
         have hQ8 : OwnQ w8 w.heap.size b'' c'' (acc ++ [⟨NN, []⟩]) := by
          refine ⟨q ++ [(⟨NN, []⟩, none, 0)], by rw [List.map_append, hq.out]; rfl, ?_, fun y hy => ?_⟩
          ·rw [List.length_append, qvs_append]
           (try rw [hm.out])
           exact hown8
          ·rcases List.mem_append.1 hy with hy | hy
           ·exact World.ownsRow.kept (hqv7.out y hy) hg8 (own_apart (hqv7.out y hy) hrow7.out (by decide))
           ·rw [List.mem_singleton.1 hy]
            exact World.ownsRow.kept hv7.out hg8 (own_apart hv7.out hrow7.out (by decide))
         replace hQ8 := Hd hQ8
         have hal2 := Hd (show (acc ++ [(⟨NN, []⟩ : PartD)]).length = j + 1 - 3 by rw [List.length_append, hal.out]; simp only [List.length_cons, List.length_nil]; omega)
         clear hown8 hg8 hlt8 hsrc hrow7 hb7 hqv7 hv7 hIn7 x0 x1 y1' hown hIn hbB5
         go_wp2_with fail
         go_roundw
         case rel => exact ⟨j + 1, acc ++ [⟨NN, []⟩], by omega, by omega, by go_num, ⟨b'', c'', by rw [List.length_append]; (try rw [hm.out]); rfl, hQ8.out⟩, hal2.out, by rw [hrest.out]; exact hgo2.out, hO8.out, hfin.out⟩
         case measure => simp [intOf]; omega
        ·rw [if_neg kd] at hp'
         have hd := hdash.out
         rw [decide_eq_false kd] at hd
         replace kd := Hd kd
         have hbq := below1 w4 (.cells #[.int .i64 NN, .slice none 0 0] 65)
         have hbx := IsC.new w4 65 #[.int .i64 NN, .slice none 0 0]
         obtain ⟨W5, hW5⟩ : ∃ W5, w4.alloc (.cells #[.int .i64 NN, .slice none 0 0] 65) = W5 := ⟨_, rfl⟩
         have hsW5 : W5.heap.size = w4.heap.size + 1 := by rw [← hW5, size_alloc]
         have y1' := cell_up y1 hbq
         rw [hW5] at hbx hbq
         have hbq4 : Below w4.heap.size w4 W5 := hbq
         have c5 := rsplit_c (text p1) (by rw [text_size]; omega) 44 W5
         rw [byts_text] at c5
         have htm := segsQ_mem 44 p1
         generalize segsQ 44 p1 = ts at *
         obtain ⟨tl, htl⟩ : ∃ tl, ts.length = tl := ⟨_, rfl⟩
         rw [htl] at c5 hp'
         rw [← hW5] at c5
         replace hW5 := Hd hW5
         replace c5 := Hd c5
         replace htm := Hd htm
         replace htl := Hd htl
         replace hp' := Hd hp'
         replace hbx := Hd hbx
         replace hsW5 := Hd hsW5
         have hbq4' := Hd hbq4
         clear hbq y1 hcond hbq4
         go_wp2_with fail
         refine c5.out.mono ?_
         rintro e w6 ⟨⟨ta, tc, rfl, hto⟩, hb6⟩
         rw [hW5.out] at hto hb6
         have hbx6 := Hd (isC_of hb6 hbx.out)
         have hb46 := Hd (below_up hbq4'.out hbq4'.out.size hb6)
         have hb46s := hb46.out.size
         have hto' := Hd hto
         have hsz6 : w4.heap.size + 1 ≤ w6.heap.size := by have := hb6.size; have := hsW5.out; omega
         clear hb6 hbx hbq4' c5 hto y1'
         by_cases g100 : 100 < tl
         ·have g100I : (100 : Int) < (tl : Int) := by omega
          have hr := rparts_none hgo.out (by rw [hp'.out, if_neg (fun h => by omega)])
          have hr2 := hR.out
          rw [hr] at hr2
          obtain rfl : R = none := hr2.symm
          have hbF := Hd (hbB.out.trans (hb46.out.mono hbBs))
          go_wp2_with fail
          (try simp only [Exit.inBlock, Exit.then])
          refine bodyPost_ret (by simp [results, Tryz.results78, go_sem]; try rfl) rfl ?_
          exact ⟨⟨none, 0, rfl, OwnQ.nil _ _⟩, hbF.out⟩
         ·have g100I : ¬ (100 : Int) < (tl : Int) := by omega
          have htin := Hd (OwnS.in hto'.out)
          have htne : ∀ tg tO, ta = some ⟨tg, tO, none⟩ → 0 < tl → tg ≠ w4.heap.size ∧ tg < w6.heap.size := by
           intro tg tO e h0
           subst e
           have hne : ts ≠ [] := fun e => by have := htl.out; rw [e] at this; simp at this; omega
           obtain ⟨tg', e', _⟩ := OwnS.addr hto'.out hne
           cases e'
           exact ⟨own_ne hto'.out hbx6.out (by decide), by obtain ⟨_, _, e2, h2, _⟩ := htin.out.at 0 (by rw [htl.out]; exact h0); cases e2; exact h2⟩
          replace htne := Hd htne
          clear hto'
          go_wp2_with fail
          go_loopw [14] (fun i wr2 => ∃ k : Nat, k ≤ tl ∧ i = .int .i64 k ∧ (ts.take k).all goodT = true ∧ (∃ va vc, IsC wr2 w4.heap.size 65 #[.int .i64 NN, .slice va k vc] ∧ wr2.ownsRow w6.heap.size 61 3 (.slice va k vc) k (wvs (valsR (ts.take k)))) ∧ InT wr2 ta tc ts ∧ Below w4.heap.size w4 wr2 ∧ w6.heap.size ≤ wr2.heap.size) (fun i _ => tl - (intOf i).toNat)
          case atStart => exact ⟨0, Nat.zero_le _, rfl, rfl, ⟨none, 0, hbx6.out, World.ownsRow_nil _ _ _ _⟩, htin.out, hb46.out, Nat.le_refl _⟩
          case round =>
           clear hbx6 htin hb46 hb46s
           obtain ⟨k, hk, rfl, hko, ⟨va, vc, hprt, hown4⟩, hSin, hb0, h6⟩ := hrel
           have hb0s := hb0.size
           by_cases hlk : k < tl
           ·have hkt : k < ts.length := by rw [htl.out]; exact hlk
            obtain ⟨tg, tO, rfl, htg, hcell⟩ := hSin.at k hkt
            obtain ⟨htn1, htn2⟩ := htne.out tg tO rfl (by omega)
            have hlkI : (k : Int) < (tl : Int) := by omega
            have hst : ts.take (k + 1) = ts.take k ++ [ts[k]] := List.take_succ_eq_append_getElem hkt
            have hxl2 := htm.out ts[k] (List.getElem_mem hkt)
            have hmem := List.getElem_mem hkt
            generalize ts[k] = t at *
            have cW : wRet _ _ _ := wrefParse_c (text t) (by rw [text_size]; omega)
            rw [byts_text] at cW
            unfold wRet wv at cW
            have hsa : (ts.take (k + 1)).all goodT = goodT t := by rw [hst, List.all_append, hko, Bool.true_and]; simp
            have hsv : valsR (ts.take (k + 1)) = valsR (ts.take k) ++ [(parseF t).1] := by rw [hst]; unfold valsR; rw [List.map_append]; rfl
            have hall : goodT t = false → ts.all goodT = false := fun h => List.all_eq_false.2 ⟨t, hmem, by rw [h]; decide⟩
            have hgt : goodT t = decide ((parseF t).2 = 0) := rfl
            obtain ⟨⟨X, ex⟩, hXe⟩ : ∃ p, parseF t = p := ⟨_, rfl⟩
            rw [hXe] at cW hsv hgt
            dsimp only at cW hsv hgt
            clear hXe hst hmem
            replace cW := Hd cW
            replace hsa := Hd hsa
            replace hsv := Hd hsv
            replace hall := Hd hall
            replace hgt := Hd hgt
            replace hprt := Hd hprt
            replace hown4 := Hd hown4
            replace hSin := Hd hSin
            replace hb0 := Hd hb0
            replace hko := Hd hko
            replace htn1 := Hd htn1
            go_wp2_with fail
            refine (cW.out _).mono ?_
            rintro e w7 ⟨rfl, hb8⟩
            have hbq := below1 w7 (.cells #[.bool X.n, .int .u64 X.h, .int .u64 X.l] 61)
            have hpr4 := (isC_of hb8 hprt.out).alloc (.cells #[.bool X.n, .int .u64 X.h, .int .u64 X.l] 61)
            have hSi4 := (hSin.out.below hb8).below hbq
            have hb5 := below_up hb0.out hb0s hb8
            have hb6 := hb5.alloc hb5.size (.cells #[.bool X.n, .int .u64 X.h, .int .u64 X.l] 61)
            have hw4' : w6.heap.size ≤ w7.heap.size := Nat.le_trans h6 hb8.size
            have hown5 : (w7.alloc (.cells #[.bool X.n, .int .u64 X.h, .int .u64 X.l] 61)).ownsRow w6.heap.size 61 3 (.slice va k vc) k (wvs (valsR (ts.take k))) :=
             World.ownsRow.alloc (World.ownsRow.kept (row := none) hown4.out ⟨hb8.os, hb8.tape, hb8.output, hb8.size, fun k hk _ => hb8.block k hk⟩ (by cases (Value.slice va k vc).ownBlock <;> simp)) _
            have hint := IsC.new w7 61 #[.bool X.n, .int .u64 X.h, .int .u64 X.l]
            by_cases hex : ex = 0
            ·subst hex
             have i0' := hint.cell 0
             have i1' := hint.cell 1
             have i2' := hint.cell 2
             have p1' := hpr4.cell 1
             have hbn := below1 (w7.alloc (.cells #[.bool X.n, .int .u64 X.h, .int .u64 X.l] 61)) (.cells #[.bool X.n, .int .u64 X.h, .int .u64 X.l] 61)
             have hsrc := src_wi (w7.alloc (.cells #[.bool X.n, .int .u64 X.h, .int .u64 X.l] 61)) X
             rw [size_alloc] at hsrc
             clear hb8 hbq hb5 hint hprt hSin hb0 hown4 hcell htg cW
             replace hpr4 := Hd (hpr4.alloc (.cells #[.bool X.n, .int .u64 X.h, .int .u64 X.l] 61))
             replace hSi4 := Hd (hSi4.below hbn)
             have hb6s := hb6.size
             replace hb6 := Hd (hb6.alloc hb6s (.cells #[.bool X.n, .int .u64 X.h, .int .u64 X.l] 61))
             replace hown5 := Hd (World.ownsRow.alloc hown5 (.cells #[.bool X.n, .int .u64 X.h, .int .u64 X.l] 61))
             clear hbn
             go_wp2_with (at_builtin; refine wpList_append_own_src _ rfl (.tmp 115) (.tmp 117) 63 63 rfl w6.heap.size 61 i0 (.agg #[.bool false, .int .u64 0, .int .u64 0]) 3 24 Tryz.underlying63 hi hz0 hz1 hz2 rfl rfl hown5.out rfl hsrc ?_ ?_ ?_ ?_)
             ·unfold maxLen; omega
             ·omega
             ·rw [size_alloc, size_alloc]; omega
             intro b' c8 w8 hown8 hg8
             have hrow := World.ownsRow.lt hown5.out
             have hpr6 := isC_grown hpr4.out hg8 (fun e => by have := hrow _ e; omega)
             have hSi6 := inT_grown hSi4.out hg8 (fun e => by have := hrow _ e; omega)
             have hb7 := Below.grown hb6.out hg8 (by rw [size_alloc, size_alloc]; omega) (fun q hq => by have := hrow q hq; omega)
             rw [show ([.bool X.n, .int .u64 X.h, .int .u64 X.l] : List Value) = wvs [X] from rfl, ← wvs_append, ← hsv.out] at hown8
             have q0 := hpr6.cell 1
             have q1' := hpr6.f 1
             have hpr7 := Hd (show IsC (w8.setCell ⟨w4.heap.size, 1, none⟩ (.slice b' (k + 1) c8)) w4.heap.size 65 #[.int .i64 NN, .slice b' (k + 1) c8] from hpr6.set 1 (.slice b' (k + 1) c8))
             have hSi7 := Hd (inT_set (i := 1) (v := .slice b' (k + 1) c8) hSi6 htn1.out)
             have hb8' := Hd (hb7.setCell (p := ⟨w4.heap.size, 1, none⟩) (Nat.le_refl _) (.slice b' (k + 1) c8))
             have hown7 := Hd (ownsRow_setCell_below hown8 (a := ⟨w4.heap.size, 1, none⟩) (by show w4.heap.size < w6.heap.size; omega) (.slice b' (k + 1) c8))
             have hsz := hg8.size
             rw [size_alloc, size_alloc] at hsz
             have hgood := Hd (show (ts.take (k + 1)).all goodT = true by rw [hsa.out, hgt.out]; rfl)
             clear hown8 hg8 hrow hpr6 hSi6 hb7 hpr4 hSi4 hb6 hown5 hsrc
             go_wp2_with fail
             go_roundw
             case rel => exact ⟨k + 1, by omega, by go_num, hgood.out, ⟨b', c8, hpr7.out, hown7.out⟩, hSi7.out, hb8'.out, by simp; omega⟩
             case measure => simp [intOf]; omega
            ·have hexb : (ex != 0) = true := bne_iff_ne.2 hex
             have hbad : ts.all goodT = false := hall.out (by rw [hgt.out, decide_eq_false hex])
             have hr := rparts_none hgo.out (by rw [hp'.out, if_neg (fun h => by rw [hbad] at h; exact absurd h.2 (by decide))])
             have hr2 := hR.out
             rw [hr] at hr2
             obtain rfl : R = none := hr2.symm
             have hbF := Hd (hbB.out.trans (hb6.mono hbBs))
             clear hint hown5 hSi4 hpr4 hb5 hbq hb8 hb6 hbad
             go_wp2_with fail
             (try simp only [Exit.inBlock, Exit.then])
             refine bodyPost_ret (by simp [results, Tryz.results78, go_sem]; try rfl) rfl ?_
             exact ⟨⟨none, 0, rfl, OwnQ.nil _ _⟩, hbF.out⟩
           ·obtain rfl : k = tl := by omega
            have htt : ts.take k = ts := List.take_of_length_le (by rw [htl.out]; exact Nat.le_refl _)
            rw [htt] at hko hown4
            have hvl : (valsR ts).length = k := by unfold valsR; rw [List.length_map]; exact htl.out
            have hp2 := hp'.out
            rw [if_pos ⟨by omega, hko⟩] at hp2
            have hgo2 := Hd (rparts_some hgo.out hp2)
            have hOV0 : OwnV wr w6.heap.size va vc (valsR ts) := by
             show World.ownsRow _ _ _ _ (.slice va (valsR ts).length vc) (valsR ts).length _
             rw [hvl]
             exact hown4
            have hOV := OwnV.mono hOV0 (show w.heap.size ≤ w6.heap.size by omega)
            rw [← hvl] at hprt
            have x0 := hprt.cell 0
            have x1 := hprt.cell 1
            have hbB5 := Hd (hbB.out.trans (hb0.mono hbBs))
            have hb5s := hbB5.out.size
            replace hown := Hd (hown.out.below hb0)
            replace hIn := Hd (OwnS.below hIn.out hb0)
            replace hvl := Hd hvl
            clear hprt hSin hb0 hown4 hko hOV0 htt hp2
            obtain ⟨q, hq, hrow, hqv⟩ := hown.out
            have hbr := below1 wr (.cells #[.int .i64 NN, .slice va (valsR ts).length vc] 65)
            have hrow7' := World.ownsRow.alloc hrow (.cells #[.int .i64 NN, .slice va (valsR ts).length vc] 65)
            (try rw [hm.out] at hrow7')
            have hrow7 := Hd hrow7'
            clear hrow7'
            have hqv7 := Hd (fun y hy => (hqv y hy).below hbr)
            have hv7 := Hd (OwnV.below hOV hbr)
            have hIn7 := Hd (OwnS.below hIn.out hbr)
            have hb7 := Hd (hbB5.out.alloc hb5s (.cells #[.int .i64 NN, .slice va (valsR ts).length vc] 65))
            have hb7s := hb7.out.size
            have hsrc := src_pd wr NN va (valsR ts).length vc
            have hacc : acc.length ≤ 200000 := by have := hal.out; omega
            replace hq := Hd hq
            clear hrow hqv hbr
            go_wp2_with (at_builtin; refine wpList_append_own_src _ rfl (.tmp 120) (.tmp 122) 24 24 rfl w.heap.size 65 j0 (.agg #[.int .i64 0, .slice none 0 0]) 2 32 Tryz.underlying24 hj hy0 hy1 hy2 rfl rfl hrow7.out rfl hsrc ?_ ?_ ?_ ?_)
            ·unfold maxLen; omega
            ·omega
            ·exact hb7s
            intro b'' c'' w8 hown8 hg8
            have hlt8 := World.ownsRow.lt hrow7.out
            have hfin := Hd (Below.grown hb7.out hg8 hb7s (fun q hq => (hlt8 q hq).1))
            have hO8 := Hd (show OwnS w8 w.heap.size (some ⟨g, 0, none⟩) c' Ws from World.ownsRow.kept hIn7.out hg8 (own_apart hIn7.out hrow7.out (by decide)))
            have hQ8 : OwnQ w8 w.heap.size b'' c'' (acc ++ [⟨NN, valsR ts⟩]) := by
             refine ⟨q ++ [(⟨NN, valsR ts⟩, va, vc)], by rw [List.map_append, hq.out]; rfl, ?_, fun y hy => ?_⟩
             ·rw [List.length_append, qvs_append]
              (try rw [hm.out])
              exact hown8
             ·rcases List.mem_append.1 hy with hy | hy
              ·exact World.ownsRow.kept (hqv7.out y hy) hg8 (own_apart (hqv7.out y hy) hrow7.out (by decide))
              ·rw [List.mem_singleton.1 hy]
               exact World.ownsRow.kept hv7.out hg8 (own_apart hv7.out hrow7.out (by decide))
            replace hQ8 := Hd hQ8
            have hal2 := Hd (show (acc ++ [(⟨NN, valsR ts⟩ : PartD)]).length = j + 1 - 3 by rw [List.length_append, hal.out]; simp only [List.length_cons, List.length_nil]; omega)
            clear hown8 hg8 hlt8 hsrc hrow7 hb7 hqv7 hv7 hIn7 x0 x1 hown hIn hbB5
            go_wp2_with fail
            go_roundw
            case rel => exact ⟨j + 1, acc ++ [⟨NN, valsR ts⟩], by omega, by omega, by go_num, ⟨b'', c'', by rw [List.length_append]; (try rw [hm.out]); rfl, hQ8.out⟩, hal2.out, by rw [hrest.out]; exact hgo2.out, hO8.out, hfin.out⟩
            case measure => simp [intOf]; omega
     ·have hne : ((pl : Int) != 2) = true := bne_iff_ne.2 (by omega)
      have hr := rparts_none hgo.out (by unfold rpartF; rw [hps.out, if_neg (by rw [hpl.out]; exact g2)])
      have hr2 := hR.out
      rw [hr] at hr2
      obtain rfl : R = none := hr2.symm
      go_wp2_with fail
      (try simp only [Exit.inBlock, Exit.then])
      refine bodyPost_ret (by simp [results, Tryz.results78, go_sem]; try rfl) rfl ?_
      exact ⟨⟨none, 0, rfl, OwnQ.nil _ _⟩, hbB.out⟩
    ·obtain rfl : j = n := by omega
     rw [List.drop_eq_nil_of_le (by rw [hn.out]; exact Nat.le_refl _)] at hgo
     have hr := hR.out
     rw [← hgo] at hr
     change some (N2 * 4294967296 + N1, acc ++ []) = R at hr
     rw [List.append_nil] at hr
     subst hr
     have hm1 : IntKind.u64.wrap (N2 * 4294967296) = N2 * 4294967296 := Go.IntWalk.u64_in _ ⟨by omega, by omega⟩
     have hm2 : IntKind.u64.wrap (N2 * 4294967296 + N1) = N2 * 4294967296 + N1 := Go.IntWalk.u64_in _ ⟨by omega, by omega⟩
     replace hb := Hd hb
     replace hown := Hd hown
     clear hgo hIn hR
     go_wp2_with fail
     (try simp only [Exit.inBlock, Exit.then])
     refine bodyPost_ret (by simp [results, Tryz.results78, go_sem]; try rfl) rfl ?_
     exact ⟨⟨a, c, rfl, hown.out⟩, hb.out⟩
  ·rw [decide_eq_false g0] at hc0
   rw [if_neg (fun h => g0 h.2.1)] at hR
   subst hR
   go_wp2_with fail
   (try simp only [Exit.inBlock, Exit.then])
   refine bodyPost_ret (by simp [results, Tryz.results78, go_sem]; try rfl) rfl ?_
   exact ⟨⟨none, 0, rfl, OwnQ.nil _ _⟩, hb1.out⟩
 ·have g3I : (n : Int) < 3 := by omega
  rw [if_neg (fun h => g3 h.1)] at hR
  subst hR
  go_wp2_with fail
  (try simp only [Exit.inBlock, Exit.then])
  refine bodyPost_ret (by simp [results, Tryz.results78, go_sem]; try rfl) rfl ?_
  exact ⟨⟨none, 0, rfl, OwnQ.nil _ _⟩, hb1.out⟩
end Go.Proofs.YtjjgbillihedgaaGreatDoor
