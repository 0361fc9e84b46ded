/- parts of the proof, merged: TlV3, TlG, TlS -/
import Derived.Test.YtjjgbillihedgaaGreatDoorQy9
import Derived.Test.YtjjgbillihedgaaGreatDoorQy15
set_option linter.unusedSimpArgs false
set_option linter.unusedVariables false
set_option maxHeartbeats 16000000
set_option maxRecDepth 100000
namespace Go.Proofs.YtjjgbillihedgaaGreatDoor
open Go.RowKit
open Rf
open Sg
open Wide
open Tl
theorem rparts_c (ps : List PartD) (hN : ps.length ≤ 1000000) (t : Value) (w : World) (hin : InS w t ps) :
 Calls Tryz.prog 31 #[t] w fun e w' => e = .returned (.bool (isPartsF ps)) ∧ Below w.heap.size w w' := by
 obtain ⟨a, c, rfl, _⟩ := id hin
 obtain ⟨R, hR⟩ : ∃ R, isPartsF ps = R := ⟨_, rfl⟩
 rw [hR]
 rw [← rgo_parts] at hR
 replace hin := Hd hin
 go_enter Tryz.func31, Tryz.ntmps31
 go_wp2_with fail
 go_loopw [3] (fun i wr => ∃ j : Nat, j ≤ ps.length ∧ i = .int .i64 j ∧ rgo (prevC ps j) (ps.drop j) = R ∧ Below w.heap.size w wr) (fun i _ => ps.length - (intOf i).toNat)
 case atStart => exact ⟨0, Nat.zero_le _, rfl, hR, Below.refl _ _⟩
 case round =>
  clear hR
  obtain ⟨j, hj, rfl, hgo, hb⟩ := hrel
  have hbz := hb.size
  by_cases hlt : j < ps.length
  ·rw [rgo_step hlt] at hgo
   obtain ⟨g, o, ts, rfl, hgz, h0, h1, hv⟩ := (hin.out.below hb).at j hlt
   obtain ⟨va, vc, rfl, _⟩ := id hv
   have hltI : (j : Int) < (ps.length : Int) := by omega
   have hprev : 0 < j → ∃ C0, prevC ps j = C0 ∧ wr.cell? ⟨g, o + (j - 1) * 2, none⟩ = some (.int .i64 C0) := by
    intro h
    obtain ⟨g', o', ts', e, _, h0', _⟩ := (hin.out.below hb).at (j - 1) (by omega)
    cases e
    refine ⟨_, ?_, h0'⟩
    obtain ⟨m, rfl⟩ : ∃ m, j = m + 1 := ⟨j - 1, by omega⟩
    show (match ps[m]? with | some p => p.C | none => 0) = _
    rw [List.getElem?_eq_getElem (by omega)]
    rfl
   have hp0 : j = 0 → prevC ps j = 0 := fun h => by subst h; rfl
   generalize hPV : prevC ps j = PV at *
   have hnx : prevC ps (j + 1) = prevC ps (j + 1) := rfl
   obtain ⟨p, hp⟩ : ∃ p, ps[j] = p := ⟨_, rfl⟩
   rw [hp] at hgo h0 h1 hv
   have hPV0 := hPV
   clear hPV0
   obtain ⟨C, V⟩ := p
   clear hp hnx
   dsimp only at *
   by_cases g1 : C < 1
   ·rw [decide_eq_false (by omega)] at hgo
    obtain rfl : false = R := by rw [← hgo]; simp
    clear hgo hp0 hprev
    replace hb := Hd hb
    replace hv := Hd hv
    go_wp2_with fail
    go_quiet (fail)
    clear h0 h1 g1
    go_wp2_with fail
    go_ret
    exact ⟨rfl, below_drewN hb.out⟩
   have d1 : decide (C < 1) = false := decide_eq_false g1
   by_cases g2 : 24 < C
   ·rw [decide_eq_false (by omega)] at hgo
    have d2 : decide (24 < C) = true := decide_eq_true g2
    obtain rfl : false = R := by rw [← hgo]; simp
    clear hgo hp0 hprev
    replace hb := Hd hb
    replace hv := Hd hv
    go_wp2_with fail
    go_quiet (fail)
    clear h0 h1 g1
    go_wp2_with fail
    go_ret
    exact ⟨rfl, below_drewN hb.out⟩
   have d2 : decide (24 < C) = false := decide_eq_false g2
   by_cases hj0 : j = 0
   ·have hPz := hp0 hj0
    clear hprev hp0
    have hjI : ¬ (0 : Int) < (j : Int) := by omega
    have d3 : decide (0 < j) = false := decide_eq_false (by omega)
    replace hj0 := Hd hj0
    have hprevc : True := trivial
    by_cases g4 : 100 < V.length
    ·have g4I : (100 : Int) < (V.length : Int) := by omega
     have d4 : decide ((100 : Int) < (V.length : Int)) = true := decide_eq_true g4I
     have d4' : decide (100 < V.length) = true := decide_eq_true g4
     have hpf : isPartF V = false := by unfold isPartF; rw [decide_eq_false (by omega), Bool.false_and]
     rw [hpf] at hgo
     have hp0 : True := trivial
     have hprev : True := trivial
     replace hPz := Hd hPz
     obtain rfl : false = R := by rw [← hgo]; simp
     clear hgo hp0 hprev
     replace hb := Hd hb
     replace hv := Hd hv
     go_wp2_with fail
     go_quiet (fail)
     clear h0 h1 g1
     go_wp2_with fail
     go_ret
     exact ⟨rfl, below_drewN hb.out⟩
    ·have g4I : ¬ (100 : Int) < (V.length : Int) := by omega
     have d4 : decide ((100 : Int) < (V.length : Int)) = false := decide_eq_false g4I
     have hcond : decide (1 ≤ C ∧ C ≤ 24 ∧ PV < C) = true := decide_eq_true ⟨by omega, by omega, by omega⟩
     rw [hcond, Bool.true_and] at hgo
     have hform : isPartF V = V.all WI.form := by unfold isPartF; rw [decide_eq_true (by omega), Bool.true_and]
     rw [hform] at hgo
     clear hform hcond
     replace hgo := Hd hgo
     replace hb := Hd hb
     replace hv := Hd hv
     go_wp2_with fail
     go_quiet (fail)
     go_wp2_with fail
     go_loopw [4] (fun i wr2 => ∃ k : Nat, k ≤ V.length ∧ i = .int .i64 k ∧ (V.take k).all WI.form = true ∧ Below wr.heap.size wr wr2) (fun i _ => V.length - (intOf i).toNat)
     case atStart => exact ⟨0, Nat.zero_le _, rfl, rfl, below_drewN (Below.refl _ _)⟩
     case round =>
      obtain ⟨k, hk, rfl, hko, hb2⟩ := hrel
      have hball := below_up hb.out hbz hb2
      have hb2s := hb2.size
      have q1 := (hb2.cell (p := ⟨g, o + j * 2 + 1, none⟩) hgz).trans h1
      by_cases hlk : k < V.length
      ·obtain ⟨g2, o2, rfl, hgz2, c0, c1, c2⟩ := (hv.out.below hb2).at k hlk
       have hlkI : (k : Int) < (V.length : Int) := by omega
       have hsv : V.take (k + 1) = V.take k ++ [V[k]] := List.take_succ_eq_append_getElem hlk
       have hmem := List.getElem_mem hlk
       generalize V[k] = x at *
       have cG := good_c x
       have hsa : (V.take (k + 1)).all WI.form = x.form := by rw [hsv, List.all_append, hko, Bool.true_and]; simp
       have hall : x.form = false → V.all WI.form = false := fun h => List.all_eq_false.2 ⟨x, hmem, by rw [h]; decide⟩
       clear hsv hko h0 h1 hprevc
       obtain ⟨xn, xh, xl⟩ := x
       unfold wv at cG
       dsimp only at *
       generalize WI.form ⟨xn, xh, xl⟩ = f at *
       replace hball := Hd hball
       replace hb2 := Hd hb2
       replace hsa := Hd hsa
       replace hall := Hd hall
       have cG' := Hd (cG wr)
       clear cG
       go_wp2_with fail
       refine cG'.out.mono ?_
       rintro e w3 ⟨rfl, hb3⟩
       have hb4 := Hd (hb2.out.trans (hb3.mono hb2s))
       have hb5 := Hd (hball.out.trans (hb3.mono hball.out.size))
       clear hb3 hball hb2 q1 c0 c1 c2
       cases f with
       | true =>
         go_wp2_with fail
         go_roundw
         case rel => exact ⟨k + 1, by omega, by go_num, hsa.out, hb4.out⟩
         case measure => simp [intOf]; omega
       | false =>
         have hr := hgo.out
         rw [hall.out rfl, Bool.false_and] at hr
         subst hr
         go_wp2_with fail
         go_ret
         exact ⟨rfl, hb5.out⟩
      ·obtain rfl : k = V.length := by omega
       rw [List.take_length] at hko
       have hr := hgo.out
       rw [hko, Bool.true_and] at hr
       replace hr := Hd hr
       replace hball := Hd hball
       clear hb2 hgo hko h0 h1 hprevc
       go_wp2_with fail
       go_roundw
       case rel => exact ⟨j + 1, by omega, by go_num, hr.out, hball.out⟩
       case measure => simp [intOf]; omega
   ·have hjp : 0 < j := Nat.pos_of_ne_zero hj0
    obtain ⟨C0, hC0, hprevc⟩ := hprev hjp
    have hC1 : PV = C0 := hC0
    clear hC0
    subst hC1
    clear hprev hp0
    have hjI : (0 : Int) < (j : Int) := by omega
    have d3 : decide (0 < j) = true := decide_eq_true hjp
    have hjm : IntKind.i64.wrap ((j : Int) - 1) = ((j - 1 : Nat) : Int) := by
     rw [show (j : Int) - 1 = ((j - 1 : Nat) : Int) by omega]
     exact Go.IntWalk.i64_in _ ⟨by omega, by omega⟩
    have hjb : ((j - 1 : Nat) : Int) < (ps.length : Int) := by omega
    by_cases g3 : C ≤ PV
    ·have d5 : decide (C ≤ PV) = true := decide_eq_true g3
     rw [decide_eq_false (by omega)] at hgo
     have hp0 : True := trivial
     have hprev : True := trivial
     obtain rfl : false = R := by rw [← hgo]; simp
     clear hgo hp0 hprev
     replace hb := Hd hb
     replace hv := Hd hv
     go_wp2_with fail
     go_quiet (fail)
     clear h0 h1 g1
     go_wp2_with fail
     go_ret
     exact ⟨rfl, below_drewN hb.out⟩
    have d5 : decide (C ≤ PV) = false := decide_eq_false g3
    by_cases g4 : 100 < V.length
    ·have g4I : (100 : Int) < (V.length : Int) := by omega
     have d4 : decide ((100 : Int) < (V.length : Int)) = true := decide_eq_true g4I
     have d4' : decide (100 < V.length) = true := decide_eq_true g4
     have hpf : isPartF V = false := by unfold isPartF; rw [decide_eq_false (by omega), Bool.false_and]
     rw [hpf] at hgo
     have hp0 : True := trivial
     have hprev : True := trivial
     obtain rfl : false = R := by rw [← hgo]; simp
     clear hgo hp0 hprev
     replace hb := Hd hb
     replace hv := Hd hv
     go_wp2_with fail
     go_quiet (fail)
     clear h0 h1 g1
     go_wp2_with fail
     go_ret
     exact ⟨rfl, below_drewN hb.out⟩
    ·have g4I : ¬ (100 : Int) < (V.length : Int) := by omega
     have d4 : decide ((100 : Int) < (V.length : Int)) = false := decide_eq_false g4I
     have hcond : decide (1 ≤ C ∧ C ≤ 24 ∧ PV < C) = true := decide_eq_true ⟨by omega, by omega, by omega⟩
     rw [hcond, Bool.true_and] at hgo
     have hform : isPartF V = V.all WI.form := by unfold isPartF; rw [decide_eq_true (by omega), Bool.true_and]
     rw [hform] at hgo
     clear hform hcond
     replace hgo := Hd hgo
     replace hb := Hd hb
     replace hv := Hd hv
     go_wp2_with fail
     go_quiet (fail)
     go_wp2_with fail
     go_loopw [4] (fun i wr2 => ∃ k : Nat, k ≤ V.length ∧ i = .int .i64 k ∧ (V.take k).all WI.form = true ∧ Below wr.heap.size wr wr2) (fun i _ => V.length - (intOf i).toNat)
     case atStart => exact ⟨0, Nat.zero_le _, rfl, rfl, below_drewN (Below.refl _ _)⟩
     case round =>
      obtain ⟨k, hk, rfl, hko, hb2⟩ := hrel
      have hball := below_up hb.out hbz hb2
      have hb2s := hb2.size
      have q1 := (hb2.cell (p := ⟨g, o + j * 2 + 1, none⟩) hgz).trans h1
      by_cases hlk : k < V.length
      ·obtain ⟨g2, o2, rfl, hgz2, c0, c1, c2⟩ := (hv.out.below hb2).at k hlk
       have hlkI : (k : Int) < (V.length : Int) := by omega
       have hsv : V.take (k + 1) = V.take k ++ [V[k]] := List.take_succ_eq_append_getElem hlk
       have hmem := List.getElem_mem hlk
       generalize V[k] = x at *
       have cG := good_c x
       have hsa : (V.take (k + 1)).all WI.form = x.form := by rw [hsv, List.all_append, hko, Bool.true_and]; simp
       have hall : x.form = false → V.all WI.form = false := fun h => List.all_eq_false.2 ⟨x, hmem, by rw [h]; decide⟩
       clear hsv hko h0 h1 hprevc
       obtain ⟨xn, xh, xl⟩ := x
       unfold wv at cG
       dsimp only at *
       generalize WI.form ⟨xn, xh, xl⟩ = f at *
       replace hball := Hd hball
       replace hb2 := Hd hb2
       replace hsa := Hd hsa
       replace hall := Hd hall
       have cG' := Hd (cG wr)
       clear cG
       go_wp2_with fail
       refine cG'.out.mono ?_
       rintro e w3 ⟨rfl, hb3⟩
       have hb4 := Hd (hb2.out.trans (hb3.mono hb2s))
       have hb5 := Hd (hball.out.trans (hb3.mono hball.out.size))
       clear hb3 hball hb2 q1 c0 c1 c2
       cases f with
       | true =>
         go_wp2_with fail
         go_roundw
         case rel => exact ⟨k + 1, by omega, by go_num, hsa.out, hb4.out⟩
         case measure => simp [intOf]; omega
       | false =>
         have hr := hgo.out
         rw [hall.out rfl, Bool.false_and] at hr
         subst hr
         go_wp2_with fail
         go_ret
         exact ⟨rfl, hb5.out⟩
      ·obtain rfl : k = V.length := by omega
       rw [List.take_length] at hko
       have hr := hgo.out
       rw [hko, Bool.true_and] at hr
       replace hr := Hd hr
       replace hball := Hd hball
       clear hb2 hgo hko h0 h1 hprevc
       go_wp2_with fail
       go_roundw
       case rel => exact ⟨j + 1, by omega, by go_num, hr.out, hball.out⟩
       case measure => simp [intOf]; omega
  ·obtain rfl : j = ps.length := by omega
   rw [List.drop_length] at hgo
   obtain rfl : true = R := hgo
   replace hb := Hd hb
   go_wp2_with fail
   go_ret
   exact ⟨rfl, hb.out⟩
namespace Tl
theorem whoT_len (e : Int) (he : u64 e) (ps : List PartD) (hs : Small ps) : (whoT e ps).length ≤ 50000000000000 := by
 have h := join_le 41000023 32 (whoL e ps) (fun x hx => by
  unfold whoL at hx
  rcases List.mem_append.1 hx with hx | hx
  ·have h1 := itoa_le (idF_i64 he)
   have h2 := itoa_le (genF_i64 he)
   simp only [List.mem_cons, List.not_mem_nil, or_false] at hx
   rcases hx with rfl | rfl | rfl
   ·simp
   ·omega
   ·omega
  ·obtain ⟨p, hp, rfl⟩ := List.mem_map.1 hx
   obtain ⟨h1, h2⟩ := hs.2 p hp
   have := partT_len h1
   omega)
 rw [whoL_len] at h
 have := hs.1
 unfold whoT
 omega
end Tl
theorem who_c (e : Int) (he : u64 e) (ps : List PartD) (hs : Small ps) (s : Value) (w : World) (hin : InS w s ps) (hg : GlobT w) :
 Calls Tryz.prog 94 #[.int .u64 e, s] w fun x w' => x = .returned (.string (text (whoT e ps))) ∧ Below w.heap.size w w' := by
 obtain ⟨i0, hi, hz0, hz1, hz2⟩ := info_parts infoStr
 have hwl := whoT_len e he ps hs
 obtain ⟨hL, hS⟩ := hs
 obtain ⟨a0, cp0, rfl, _⟩ := id hin
 unfold whoT at *
 obtain ⟨R, hR⟩ : ∃ R, Lib.join (whoL e ps) [32] = R := ⟨_, rfl⟩
 rw [hR] at hwl ⊢
 replace hR := Hd hR
 have hb0 := below1 w (.cells (sv [[101]]).toArray 9)
 have hown0 := own_lit w w.heap.size [[101]] (Nat.le_refl _) (by unfold maxLen; simp)
 have ch := handle_c e he _ (hg.on hb0)
 have hz : [[101], Lib.itoa (idF e), Lib.itoa (genF e)] = [[101]] ++ [Lib.itoa (idF e), Lib.itoa (genF e)] := rfl
 unfold whoL at hR
 obtain ⟨H, hH⟩ : ∃ H, [Lib.itoa (idF e), Lib.itoa (genF e)] = H := ⟨_, rfl⟩
 rw [hz, hH] at hR
 rw [hH] at ch
 have hHl : H.length = 2 := by rw [← hH]; rfl
 clear hz hH
 replace hR := Hd hR
 replace ch := Hd ch
 replace hin := Hd hin
 replace hS := Hd hS
 replace hb0 := Hd hb0
 replace hown0 := Hd hown0
 go_enter Tryz.func94, Tryz.ntmps94
 go_wp2_with fail
 refine ch.out.mono ?_
 rintro x w1 ⟨⟨b1, d1, rfl, hown1⟩, hb1⟩
 have hs0 := hb0.out.size
 have hown2 := Hd (hown0.out.below hb1)
 have hb2 := Hd (below_up hb0.out hs0 hb1)
 have hs2 := hb2.out.size
 have hsrc := src_texts hown1
 rw [hHl] at hsrc
 clear hb1 hown1 ch hown0 hb0
 go_wp2_with (at_builtin; refine wpList_append_own_src _ rfl (.tmp 8) (.tmp 10) 76 76 rfl w.heap.size 9 i0 (.string ⟨#[]⟩) 1 16 Tryz.underlying76 hi hz0 hz1 hz2 rfl rfl hown2.out rfl hsrc ?_ ?_ ?_ ?_)
 ·unfold maxLen; simp
 ·simp
 ·exact hs2
 intro b' c' w4 hown3 hg1
 have hb4 := Hd (Below.grown hb2.out hg1 hs2 (fun q hq => by have := World.ownsRow.lt hown2.out q hq; omega))
 rw [← sv_append] at hown3
 have hown4 : OwnS w4 w.heap.size b' c' ([[101]] ++ H) := by
  unfold OwnS
  rw [List.length_append, hHl]
  exact hown3
 replace hown4 := Hd hown4
 clear hg1 hsrc hown3 hown2 hb2
 have hgl : ([[101]] ++ H).length = 3 := by rw [List.length_append, hHl]; rfl
 obtain ⟨G, hG⟩ : ∃ G, [[101]] ++ H = G := ⟨_, rfl⟩
 rw [hG] at hR hown4 hgl
 clear hG hHl
 replace hgl := Hd hgl
 replace hg := Hd hg
 go_wp2_with fail
 go_loopw [5, 14] (fun b i wr => ∃ j : Nat, j ≤ ps.length ∧ i = .int .i64 j ∧ (∃ a c, b = .slice a (j + 3) c ∧ OwnS wr w.heap.size a c (G ++ (ps.take j).map partT)) ∧ Below w.heap.size w wr) (fun _ i _ => ps.length - (intOf i).toNat)
 case atStart => exact ⟨0, Nat.zero_le _, rfl, ⟨b', c', rfl, by rw [List.take_zero, List.map_nil, List.append_nil]; exact hown4.out⟩, hb4.out⟩
 case round =>
  clear hown4 hb4
  obtain ⟨j, hj, rfl, ⟨b, d, rfl, hown⟩, hb⟩ := hrel
  have hlen : (G ++ (ps.take j).map partT).length = j + 3 := by rw [List.length_append, hgl.out, List.length_map, List.length_take]; omega
  by_cases hlt : j < ps.length
  ·obtain ⟨g, o, ts, hga, hgx, k0, k1, k2⟩ := (hin.out.below hb).at j hlt
   subst hga
   have hst : G ++ (ps.take (j + 1)).map partT = (G ++ (ps.take j).map partT) ++ [partT ps[j]] := by
    rw [List.take_succ_eq_append_getElem hlt, List.map_append, List.append_assoc]
    rfl
   have hltI : (j : Int) < (ps.length : Int) := by omega
   obtain ⟨ho, hvl⟩ := hS.out ps[j] (List.getElem_mem hlt)
   generalize ps[j] = p at *
   have hbz := hb.size
   have hbox := below1 wr (.cells #[.int .i64 p.C, ts] 65)
   have cT := part_c p ho hvl ts _ (k2.below hbox) ((hg.out.on hb).on hbox)
   have hba := hb.alloc hbz (.cells #[.int .i64 p.C, ts] 65)
   have hba2 := hba.size
   have hown1 := hown.alloc (.cells #[.int .i64 p.C, ts] 65)
   obtain ⟨ta, tc, rfl, _⟩ := k2
   unfold partv at cT
   generalize hL0 : G ++ (ps.take j).map partT = L at *
   generalize hL1 : G ++ (ps.take (j + 1)).map partT = L' at *
   generalize partT p = t at *
   clear ho hvl hL0 hown hbox
   replace hL1 := Hd hL1
   replace cT := Hd cT
   replace hst := Hd hst
   replace hlen := Hd hlen
   replace hown1 := Hd hown1
   replace hb := Hd hb
   replace hba := Hd hba
   go_wp2_with fail
   refine cT.out.mono ?_
   rintro x w3 ⟨rfl, hb3⟩
   have hown2 := hown1.out.below hb3
   unfold OwnS at hown2
   rw [hlen.out] at hown2
   replace hown2 := Hd hown2
   have hb4 := Hd (below_up hba.out hba2 hb3)
   have hb4s := hb4.out.size
   clear hb3 hown1 hba hb
   have hsrc := src_str w3 (text t)
   go_wp2_with (at_builtin; refine wpList_append_own_src _ rfl (.tmp 18) (.tmp 21) 76 76 rfl w.heap.size 9 i0 (.string ⟨#[]⟩) 1 16 Tryz.underlying76 hi hz0 hz1 hz2 rfl rfl (hown2.out.alloc _) rfl hsrc ?_ ?_ ?_ ?_)
   ·unfold maxLen; omega
   ·omega
   ·(try rw [size_alloc]); omega
   intro b'' c'' w5 hown3 hg1
   have hfin := Hd (Below.grown (hb4.out.alloc hb4s (.cells #[.string (text t)] 9)) hg1 (by rw [size_alloc]; omega) (fun q hq => by have := World.ownsRow.lt hown2.out q hq; omega))
   rw [show ([.string (text t)] : List Value) = sv [t] from rfl, ← sv_append] at hown3
   have hown4 : OwnS w5 w.heap.size b'' c'' (L ++ [t]) := by
    unfold OwnS
    rw [List.length_append, hlen.out]
    exact hown3
   replace hown4 := Hd hown4
   clear hg1 hsrc hown3 hown2 hb4
   go_wp2_with fail
   go_roundw
   case rel => exact ⟨j + 1, by omega, by go_num, ⟨b'', c'', by congr 1, by rw [hL1.out, hst.out]; exact hown4.out⟩, hfin.out⟩
   case measure => simp [intOf]; omega
  ·obtain rfl : j = ps.length := by omega
   rw [List.take_length] at hown hlen
   have hjl : (Lib.join (G ++ ps.map partT) [32]).length ≤ 140737488355328 := by rw [hR.out]; omega
   have cj := joinT_c 32 (G ++ ps.map partT) (by rw [hlen]; omega) (by rw [hlen]; omega) hjl b d wr hown.in
   rw [hlen, hR.out] at cj
   have hbz := hb.size
   clear hown hjl
   replace cj := Hd cj
   replace hb := Hd hb
   go_wp2_with fail
   refine cj.out.mono ?_
   rintro e w5 ⟨rfl, hb5⟩
   have hfin2 := below_up hb.out hbz hb5
   go_wp2_with fail
   go_ret
   exact ⟨rfl, hfin2⟩
end Go.Proofs.YtjjgbillihedgaaGreatDoor
namespace Go.Proofs.YtjjgbillihedgaaGreatDoor
open Go.RowKit
open Rf
open Sg
open Wide
namespace Tl
/-- the pieces between the plusses, byte by byte -/
def segsQ (q : UInt8) : List UInt8 → List (List UInt8)
 | [] => [[]]
 | c :: r => if c = q then [] :: segsQ q r else match segsQ q r with
   | [] => [[c]]
   | x :: t => (c :: x) :: t
theorem segsQ_ne (q : UInt8) (l : List UInt8) : segsQ q l ≠ [] := by
 cases l with
 | nil => simp [segsQ]
 | cons c r =>
   unfold segsQ
   split
   ·simp
   ·split <;> simp
theorem segsQ_plus (q : UInt8) (r : List UInt8) : segsQ q (q :: r) = [] :: segsQ q r := by rw [segsQ, if_pos rfl]
theorem segsQ_cons (q : UInt8) (c : UInt8) (r : List UInt8) (h : c ≠ q) : ∃ x t, segsQ q r = x :: t ∧ segsQ q (c :: r) = (c :: x) :: t := by
 cases hs : segsQ q r with
 | nil => exact absurd hs (segsQ_ne q r)
 | cons x t => exact ⟨x, t, rfl, by rw [segsQ, if_neg h, hs]⟩
theorem splitK_segsQ (q : UInt8) : ∀ (k : Nat) (l : List UInt8), Lib.count l [q] = k → Lib.splitK [q] 0 k l = segsQ q l := by
 intro k l
 induction l generalizing k with
 | nil =>
   intro h
   rw [Lib.count_one] at h
   obtain rfl : k = 0 := by simpa using h.symm
   rfl
 | cons c r ih =>
   intro h
   by_cases hc : c = q
   ·subst hc
    rw [Lib.count_cons_eq] at h
    obtain ⟨j, rfl⟩ : ∃ j, k = j + 1 := ⟨k - 1, by omega⟩
    have hix : Lib.index (c :: r) [c] = 0 := by rw [Lib.index]; simp [List.isPrefixOf]
    rw [segsQ_plus, Lib.splitK, hix, if_neg (by decide), ← ih j (by omega)]
    rfl
   ·rw [Lib.count_cons_ne c q r hc] at h
    have ih := ih k h
    obtain ⟨x, t, h1, h2⟩ := segsQ_cons q c r hc
    rw [h2]
    rw [h1] at ih
    cases k with
    | zero =>
      rw [Lib.splitK] at ih ⊢
      cases ih
      rfl
    | succ k =>
      have hp : ([q] : List UInt8).isPrefixOf (c :: r) = false := by simp [List.isPrefixOf, Ne.symm hc]
      have hix : Lib.index (c :: r) [q] = if Lib.index r [q] == -1 then -1 else Lib.index r [q] + 1 := by rw [Lib.index, hp]; simp
      rw [Lib.splitK] at ih ⊢
      by_cases hm : Lib.index r [q] = -1
      ·rw [if_pos (by rw [hm]; rfl)] at ih
       rw [hix, if_pos (by rw [hm]; rfl)]
       cases ih
       rfl
      ·have hge := Lib.index_ge r [q]
       obtain ⟨j, hj⟩ : ∃ j : Nat, Lib.index r [q] = j := ⟨(Lib.index r [q]).toNat, by omega⟩
       rw [if_neg (fun e => hm (beq_iff_eq.1 e)), hj] at ih
       rw [hix, if_neg (fun e => hm (beq_iff_eq.1 e)), hj, if_neg (fun e => by have := beq_iff_eq.1 e; omega)]
       have e1 : ((j : Int) + 1).toNat = j + 1 := by omega
       rw [e1]
       simp only [Int.toNat_natCast, Nat.add_zero, List.length_cons, List.length_nil] at ih ⊢
       rw [List.take_succ_cons, List.drop_succ_cons]
       have ih1 := (List.cons.inj ih).1
       have ih2 := (List.cons.inj ih).2
       rw [ih1, ih2]
theorem segsQ_app (q : UInt8) (x l : List UInt8) (h : q ∉ x) : segsQ q (x ++ q :: l) = x :: segsQ q l := by
 induction x with
 | nil => exact segsQ_plus q l
 | cons c r ih =>
   simp only [List.mem_cons, not_or] at h
   obtain ⟨y, t, h1, h2⟩ := segsQ_cons q c (r ++ q :: l) (fun e => h.1 e.symm)
   rw [List.cons_append, h2]
   rw [ih h.2] at h1
   cases h1
   rfl
/-- pieces with a plus behindQ q each -/
def behindQ (q : UInt8) (xs : List (List UInt8)) : List UInt8 := (xs.map (· ++ [q])).flatten
theorem behindQ_nil (q : UInt8) : behindQ q [] = [] := rfl
theorem behindQ_cons (q : UInt8) (x : List UInt8) (xs : List (List UInt8)) : behindQ q (x :: xs) = x ++ q :: behindQ q xs := by simp [behindQ]
theorem joinQ_behind (q : UInt8) (x : List UInt8) (xs : List (List UInt8)) : Lib.join (x :: xs) [q] ++ [q] = behindQ q (x :: xs) := by
 rw [Lib.join_cons, behindQ_cons]
 unfold Lib.joinTail
 induction xs generalizing x with
 | nil => simp [behindQ_nil]
 | cons y r ih =>
   have := ih y
   rw [List.append_assoc] at this ⊢
   rw [List.map_cons, List.flatten_cons, List.append_assoc, List.append_assoc, behindQ_cons, ← List.append_cancel_left this]
   simp
theorem segsQ_behind (q : UInt8) (xs : List (List UInt8)) (l : List UInt8) (h : ∀ x ∈ xs, q ∉ x) : segsQ q (behindQ q xs ++ l) = xs ++ segsQ q l := by
 induction xs with
 | nil => rfl
 | cons x r ih =>
   rw [behindQ_cons, List.append_assoc, List.cons_append, segsQ_app q x _ (h x (by simp)), ih (fun y hy => h y (by simp [hy])), List.cons_append]
theorem segsQ_join (q : UInt8) (x : List UInt8) (xs : List (List UInt8)) (h : ∀ y ∈ x :: xs, q ∉ y) : segsQ q (Lib.join (x :: xs) [q]) = x :: xs := by
 have h1 : segsQ q (Lib.join (x :: xs) [q] ++ q :: []) = x :: xs ++ [[]] := by
  rw [joinQ_behind, ← List.append_nil (behindQ q (x :: xs)), segsQ_behind q _ _ h]
  rfl
 suffices hh : ∀ l : List UInt8, segsQ q (l ++ [q]) = segsQ q l ++ [[]] by
  rw [hh] at h1
  exact List.append_cancel_right h1
 intro l
 induction l with
 | nil => show segsQ q [q] = [[], []]; rw [segsQ_plus]; rfl
 | cons c r ih =>
   by_cases hc : c = q
   ·subst hc
    rw [List.cons_append, segsQ_plus, segsQ_plus, ih, List.cons_append]
   ·obtain ⟨y, t, h1, h2⟩ := segsQ_cons q c r hc
    obtain ⟨y', t', h3, h4⟩ := segsQ_cons q c (r ++ [q]) hc
    rw [List.cons_append, h4, h2]
    rw [ih, h1, List.cons_append] at h3
    cases h3
    rfl
end Tl
open Tl
theorem splitQ_len (q : UInt8) (s : ByteArray) : (segsQ q (byts s)).length = Lib.countB s ⟨#[q]⟩ + 1 := by
 have h : (Lib.splitB ⟨#[q]⟩ 0 (Lib.countB s ⟨#[q]⟩) s).length = Lib.countB s ⟨#[q]⟩ + 1 := Lib.splitB_all ⟨#[q]⟩ (by show 1 ≤ 1; omega) 0 _ s rfl
 have h2 : (Lib.splitB ⟨#[q]⟩ 0 (Lib.countB s ⟨#[q]⟩) s).map (·.data.toList) = segsQ q (byts s) := by
  rw [Lib.splitB_data]
  exact splitK_segsQ q _ _ rfl
 rw [← h2, List.length_map]
 exact h
theorem splitQ_vals (q : UInt8) (s : ByteArray) : (Lib.splitB ⟨#[q]⟩ 0 (Lib.countB s ⟨#[q]⟩) s).map Value.string = sv (segsQ q (byts s)) := by
 have h2 : (Lib.splitB ⟨#[q]⟩ 0 (Lib.countB s ⟨#[q]⟩) s).map (·.data.toList) = segsQ q (byts s) := by
  rw [Lib.splitB_data]
  exact splitK_segsQ q _ _ rfl
 rw [← h2]
 unfold sv
 rw [List.map_map]
 apply List.map_congr_left
 intro x _
 show Value.string x = Value.string (text (byts x))
 rw [text_byts]
end Go.Proofs.YtjjgbillihedgaaGreatDoor
