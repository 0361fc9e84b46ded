/- parts of the proof, merged: TlI4, TlI5, TlI6 -/
import Derived.Test.YtjjgbillihedgaaGreatDoorQy29
set_option linter.unusedSimpArgs false
set_option linter.unusedVariables false
set_option maxHeartbeats 64000000
set_option maxRecDepth 100000
namespace Go.Proofs.YtjjgbillihedgaaGreatDoor
open Go.RowKit
open Go.BigFrame
open Rf
open Sg
open Wide
open Tl
theorem risL4 (o : OpD) (hK : 1 ≤ o.K ∧ o.K ≤ 11) (hl : bL o.K 101 = true ∧ bL o.K 99 = true ∧ bL o.K 112 = false ∧ bL o.K 113 = false ∧ bL o.K 117 = false ∧ bL o.K 98 = false ∧ bL o.K 100 = false) (hep : o.K ≠ 3 ∧ o.K ≠ 5) (hs : OpSmall o) (s t : Value) (w : World) (hin : OpIn w o s t) :
 Calls Tryz.prog 10 #[opv o s t] w fun e w' => e = .returned (.bool (isOpF o)) ∧ Below w.heap.size w w' := by
 obtain ⟨hi1, hi2⟩ := hin
 obtain ⟨a, c, rfl, _⟩ := id hi1
 obtain ⟨b, d, rfl, _⟩ := id hi2
 have hb1 := below1 w (.cells (opc o (.slice a o.P.length c) (.slice b o.cP.length d)) 38)
 have hbox := IsC.new w 38 (opc o (.slice a o.P.length c) (.slice b o.cP.length d))
 have cN := names_c o.K
 obtain ⟨R, hR⟩ : ∃ R, isOpF o = R := ⟨_, rfl⟩
 rw [hR]
 obtain ⟨NM, hNM⟩ : ∃ x, text (namesF o.K) = x := ⟨_, rfl⟩
 rw [hNM] at cN
 rw [isOp_offs o hK] at hR
 have hh : ∀ (x : UInt8) (b : Bool), bL o.K x = b → Still 29 #[.string NM, .int .u8 (x.toNat : Int)] (.bool b) := has_let o.K NM hNM
 obtain ⟨eE, eC, eP, eQ, eU, eB, eD⟩ := hl
 have hE0 : Still 29 #[.string NM, .int .u8 101] (.bool true) := hh 101 _ eE
 have hC0 : Still 29 #[.string NM, .int .u8 99] (.bool true) := hh 99 _ eC
 have hP0 : Still 29 #[.string NM, .int .u8 112] (.bool false) := hh 112 _ eP
 have hQ0 : Still 29 #[.string NM, .int .u8 113] (.bool false) := hh 113 _ eQ
 have hU0 : Still 29 #[.string NM, .int .u8 117] (.bool false) := hh 117 _ eU
 have hB0 : Still 29 #[.string NM, .int .u8 98] (.bool false) := hh 98 _ eB
 have hD0 : Still 29 #[.string NM, .int .u8 100] (.bool false) := hh 100 _ eD
 unfold off4 offE offC offP offQ offU offB offD nz off8 off10 last12 at hR
 have hPu := hs.P.1
 have hOu := hs.ok
 clear hs
 obtain ⟨K, E, C, P, A, N, cK, cE, cC, cP, U, B⟩ := o
 dsimp only at *
 simp only [← bL_def, eE, eC, eP, eQ, eU, eB, eD] at hR
 unfold opv
 unfold opc at hb1 hbox
 dsimp only at hb1 hbox ⊢
 have hP1 := Hd hi1
 have hP2 := Hd hi2
 clear hi1 hi2 hNM hh eE eC eP eQ eU eB eD
 obtain ⟨W, hW⟩ : ∃ W, w.alloc (.cells #[.int .i64 K, .int .u64 E, .int .i64 C, .slice a P.length c, .int .u32 A, .int .u32 N, .int .i64 cK, .int .u64 cE, .int .i64 cC, .slice b cP.length d, .int .i64 U, .string B] 38) = W := ⟨_, rfl⟩
 rw [hW] at hb1 hbox
 obtain ⟨x0, x1, x2, x3, x4, x5, x6, x7, x8, x9, x10, x11⟩ := cells12 hbox
 replace hb1 := Hd hb1
 replace hbox := Hd hbox
 replace hR := Hd hR
 replace hPu := Hd hPu
 replace hOu := Hd hOu
 replace hep := Hd hep
 replace hE0 := Hd hE0
 replace hC0 := Hd hC0
 replace hP0 := Hd hP0
 replace hQ0 := Hd hQ0
 replace hU0 := Hd hU0
 replace hB0 := Hd hB0
 replace hD0 := Hd hD0
 have hE := Hd (stq hE0.out W)
 have hC := Hd (stq hC0.out W)
 have hP := Hd (stq hP0.out W)
 have hQ := Hd (stq hQ0.out W)
 have hU := Hd (stq hU0.out W)
 have hB := Hd (stq hB0.out W)
 have k1 : decide (K < 1) = false := decide_eq_false (by omega)
 have k2 : decide (11 < K) = false := decide_eq_false (by omega)
 go_enter Tryz.func10, Tryz.ntmps10
 go_wp2_with fail
 replace hW := Hd hW
 refine (cN.on _).mono ?_
 rintro e w' ⟨rfl, rfl⟩
 clear cN
 go_upto_region 4 with fail
 clear k1 k2
 rcases alt (nzL P) (alt (nzI A) (alt (nzI N) (alt (nzI U) ((nzB B).symm)))) with ⟨yP, yP2⟩ | ⟨rfl, yA | ⟨rfl, yN | ⟨rfl, yU | ⟨rfl, ⟨yB, yB2⟩ | rfl⟩⟩⟩⟩
 rotate_right
 ·refine wp_region_quietF ?_
  (try simp only [List.append_eq, List.cons_append, List.nil_append])
  repeat (go_big_quiet_step (first | with_reducible exact Qs (hE.out _) | with_reducible exact Qs (hC.out _) | with_reducible exact Qs (hP.out _) | with_reducible exact Qs (hQ.out _) | with_reducible exact Qs (hU.out _) | with_reducible exact Qs (hB.out _)))
  refine wpQuiet_nil ?_
  intro _ hw2
  obtain ⟨nq, hw3⟩ := hw2
  subst hw3
  obtain ⟨W2, hW2⟩ : ∃ W2, W.drewN nq = W2 := ⟨_, rfl⟩
  rw [hW2]
  have hb2 := Hd (show Below w.heap.size w W2 by rw [← hW2]; exact below_drewN hb1.out)
  have hbox2 := hbox.out
  replace hbox2 : IsC (W.drewN nq) _ _ _ := hbox2
  rw [hW2] at hbox2
  clear x0 x1 x2 x3 x4 x5 x6 x7 x8 x9 x10 x11 hE hC hP hQ hU hB
  obtain ⟨x0, x1, x2, x3, x4, x5, x6, x7, x8, x9, x10, x11⟩ := cells12 hbox2
  replace hbox2 := Hd hbox2
  replace hW2 := Hd hW2
  have hD := Hd (stq hD0.out W2)
  go_upto_region 6 with fail
  rcases alt (nzI cK) (alt (nzI cE) (alt (nzI cC) ((nzL cP).symm))) with ycK | ⟨rfl, ycE | ⟨rfl, ycC | ⟨rfl, ⟨ycP, ycP2⟩ | rfl⟩⟩⟩
  rotate_right
  ·refine wp_region_quietF ?_
   (try simp only [List.append_eq, List.cons_append, List.nil_append])
   repeat (go_big_quiet_step (first | with_reducible exact Qs (hD.out _)))
   refine wpQuiet_nil ?_
   intro _ hw2
   obtain ⟨nq, hw3⟩ := hw2
   subst hw3
   obtain ⟨W3, hW3⟩ : ∃ W3, W2.drewN nq = W3 := ⟨_, rfl⟩
   rw [hW3]
   have hb3 := Hd (show Below w.heap.size w W3 by rw [← hW3]; exact below_drewN hb2.out)
   have hbox3 := hbox2.out
   replace hbox3 : IsC (W2.drewN nq) _ _ _ := hbox3
   rw [hW3] at hbox3
   clear x0 x1 x2 x3 x4 x5 x6 x7 x8 x9 x10 x11 hD
   obtain ⟨x0, x1, x2, x3, x4, x5, x6, x7, x8, x9, x10, x11⟩ := cells12 hbox3
   replace hbox3 := Hd hbox3
   replace hW3 := Hd hW3
   have hb3s := hb3.out.size
   have cP3 := Hd (rparts_c [] (by have := hPu.out; simp only [List.length_nil] at *; omega) _ W3 (hP1.out.below hb3.out))
   go_wp2_with fail
   refine (hE0.out _).mono ?_
   rintro e w' ⟨rfl, rfl⟩
   have hE1 := hOu.out.E
   unfold u64 at hE1
   have cEnt := refEnt_c E hE1.1 (by dsimp only at hE1; omega)
   have hent : (decide (0 < E % 4294967296) && decide (0 < E / 4294967296)) = isEntF E := by
    unfold isEntF idF genF
    congr 1 <;> (congr 1; exact propext (by constructor <;> intro h <;> omega))
   rw [hent] at cEnt
   replace cEnt := Hd cEnt
   clear hent hE1
   go_wp2_with fail
   refine (cEnt.out.on _).mono ?_
   rintro e w' ⟨rfl, rfl⟩
   cases hen : isEntF E with
   | false =>
     go_wp2_with fail
     go_ret
     exact ⟨by rw [← hR.out]; simp [ba0e, ba0s, hen], hb3.out⟩
   | true =>
     go_wp2_with fail
     refine cP3.out.mono ?_
     rintro e w4 ⟨rfl, hb4⟩
     have hbox4 := Hd (isC_of hb4 hbox3.out)
     have hb5 := Hd (below_up hb3.out hb3s hb4)
     clear hb4 cP3 x0 x1 x2 x3 x4 x5 x6 x7 x8 x9 x10 x11
     obtain ⟨x0, x1, x2, x3, x4, x5, x6, x7, x8, x9, x10, x11⟩ := cells12 hbox4.out
     cases hpp : isPartsF [] with
     | false =>
       go_wp2_with fail
       go_ret
       exact ⟨by rw [← hR.out]; simp [ba0e, ba0s, hpp], hb5.out⟩
     | true =>
       obtain ⟨q3, q5⟩ := hep.out
       have p3 : (K == 3) = false := beq_eq_false_iff_ne.2 q3
       have p5 : (K == 5) = false := beq_eq_false_iff_ne.2 q5
       by_cases qC : C < 0
       ·have pC : decide (C < 0) = true := decide_eq_true qC
        go_wp2_with fail
        refine (hC0.out _).mono ?_
        rintro e w' ⟨rfl, rfl⟩
        go_wp2_with fail
        go_ret
        exact ⟨by rw [← hR.out]; simp [ba0e, ba0s, qC], hb5.out⟩
       have pC : decide (C < 0) = false := decide_eq_false qC
       go_wp2_with fail
       refine (hQ0.out _).mono ?_
       rintro e w' ⟨rfl, rfl⟩
       go_wp2_with fail
       refine (hD0.out _).mono ?_
       rintro e w' ⟨rfl, rfl⟩
       go_wp2_with fail
       go_ret
       exact ⟨by rw [← hR.out]; simp [ba0e, ba0s, hpp, hen, q3, q5, qC], hb5.out⟩
  all_goals
   refine wp_region_quietF ?_
   (try simp only [List.append_eq, List.cons_append, List.nil_append])
   repeat (go_big_quiet_step (first | with_reducible exact Qs (hD.out _)))
   refine wpQuiet_nil ?_
   intro _ hw2
   obtain ⟨nq, hw3⟩ := hw2
   subst hw3
   clear x0 x1 x2 x3 x4 x5 x6 x7 x8 x9 x10 x11
   go_wp2_with fail
   go_ret
   exact ⟨by rw [← hR.out]; simp [ba0e, ba0s, *], below_drewN hb2.out⟩
 all_goals
  refine wp_region_quietF ?_
  (try simp only [List.append_eq, List.cons_append, List.nil_append])
  repeat (go_big_quiet_step (first | with_reducible exact Qs (hE.out _) | with_reducible exact Qs (hC.out _) | with_reducible exact Qs (hP.out _) | with_reducible exact Qs (hQ.out _) | with_reducible exact Qs (hU.out _) | with_reducible exact Qs (hB.out _)))
  refine wpQuiet_nil ?_
  intro _ hw2
  obtain ⟨nq, hw3⟩ := hw2
  subst hw3
  clear x0 x1 x2 x3 x4 x5 x6 x7 x8 x9 x10 x11
  go_wp2_with fail
  go_ret
  exact ⟨by rw [← hR.out]; simp [ba0e, ba0s, *], below_drewN hb1.out⟩
theorem risL5 (o : OpD) (hK : 1 ≤ o.K ∧ o.K ≤ 11) (hl : bL o.K 101 = false ∧ bL o.K 99 = false ∧ bL o.K 112 = false ∧ bL o.K 113 = true ∧ bL o.K 117 = false ∧ bL o.K 98 = false ∧ bL o.K 100 = false) (hep : o.K ≠ 3 ∧ o.K ≠ 5) (hs : OpSmall o) (s t : Value) (w : World) (hin : OpIn w o s t) :
 Calls Tryz.prog 10 #[opv o s t] w fun e w' => e = .returned (.bool (isOpF o)) ∧ Below w.heap.size w w' := by
 obtain ⟨hi1, hi2⟩ := hin
 obtain ⟨a, c, rfl, _⟩ := id hi1
 obtain ⟨b, d, rfl, _⟩ := id hi2
 have hb1 := below1 w (.cells (opc o (.slice a o.P.length c) (.slice b o.cP.length d)) 38)
 have hbox := IsC.new w 38 (opc o (.slice a o.P.length c) (.slice b o.cP.length d))
 have cN := names_c o.K
 obtain ⟨R, hR⟩ : ∃ R, isOpF o = R := ⟨_, rfl⟩
 rw [hR]
 obtain ⟨NM, hNM⟩ : ∃ x, text (namesF o.K) = x := ⟨_, rfl⟩
 rw [hNM] at cN
 rw [isOp_offs o hK] at hR
 have hh : ∀ (x : UInt8) (b : Bool), bL o.K x = b → Still 29 #[.string NM, .int .u8 (x.toNat : Int)] (.bool b) := has_let o.K NM hNM
 obtain ⟨eE, eC, eP, eQ, eU, eB, eD⟩ := hl
 have hE0 : Still 29 #[.string NM, .int .u8 101] (.bool false) := hh 101 _ eE
 have hC0 : Still 29 #[.string NM, .int .u8 99] (.bool false) := hh 99 _ eC
 have hP0 : Still 29 #[.string NM, .int .u8 112] (.bool false) := hh 112 _ eP
 have hQ0 : Still 29 #[.string NM, .int .u8 113] (.bool true) := hh 113 _ eQ
 have hU0 : Still 29 #[.string NM, .int .u8 117] (.bool false) := hh 117 _ eU
 have hB0 : Still 29 #[.string NM, .int .u8 98] (.bool false) := hh 98 _ eB
 have hD0 : Still 29 #[.string NM, .int .u8 100] (.bool false) := hh 100 _ eD
 unfold off4 offE offC offP offQ offU offB offD nz off8 off10 last12 at hR
 have hPu := hs.P.1
 have hOu := hs.ok
 clear hs
 obtain ⟨K, E, C, P, A, N, cK, cE, cC, cP, U, B⟩ := o
 dsimp only at *
 simp only [← bL_def, eE, eC, eP, eQ, eU, eB, eD] at hR
 unfold opv
 unfold opc at hb1 hbox
 dsimp only at hb1 hbox ⊢
 have hP1 := Hd hi1
 have hP2 := Hd hi2
 clear hi1 hi2 hNM hh eE eC eP eQ eU eB eD
 obtain ⟨W, hW⟩ : ∃ W, w.alloc (.cells #[.int .i64 K, .int .u64 E, .int .i64 C, .slice a P.length c, .int .u32 A, .int .u32 N, .int .i64 cK, .int .u64 cE, .int .i64 cC, .slice b cP.length d, .int .i64 U, .string B] 38) = W := ⟨_, rfl⟩
 rw [hW] at hb1 hbox
 obtain ⟨x0, x1, x2, x3, x4, x5, x6, x7, x8, x9, x10, x11⟩ := cells12 hbox
 replace hb1 := Hd hb1
 replace hbox := Hd hbox
 replace hR := Hd hR
 replace hPu := Hd hPu
 replace hOu := Hd hOu
 replace hep := Hd hep
 replace hE0 := Hd hE0
 replace hC0 := Hd hC0
 replace hP0 := Hd hP0
 replace hQ0 := Hd hQ0
 replace hU0 := Hd hU0
 replace hB0 := Hd hB0
 replace hD0 := Hd hD0
 have hE := Hd (stq hE0.out W)
 have hC := Hd (stq hC0.out W)
 have hP := Hd (stq hP0.out W)
 have hQ := Hd (stq hQ0.out W)
 have hU := Hd (stq hU0.out W)
 have hB := Hd (stq hB0.out W)
 have k1 : decide (K < 1) = false := decide_eq_false (by omega)
 have k2 : decide (11 < K) = false := decide_eq_false (by omega)
 go_enter Tryz.func10, Tryz.ntmps10
 go_wp2_with fail
 replace hW := Hd hW
 refine (cN.on _).mono ?_
 rintro e w' ⟨rfl, rfl⟩
 clear cN
 go_upto_region 4 with fail
 clear k1 k2
 rcases alt (nzI E) (alt (nzI C) (alt (nzL P) (alt (nzI U) ((nzB B).symm)))) with yE | ⟨rfl, yC | ⟨rfl, ⟨yP, yP2⟩ | ⟨rfl, yU | ⟨rfl, ⟨yB, yB2⟩ | rfl⟩⟩⟩⟩
 rotate_right
 ·refine wp_region_quietF ?_
  (try simp only [List.append_eq, List.cons_append, List.nil_append])
  repeat (go_big_quiet_step (first | with_reducible exact Qs (hE.out _) | with_reducible exact Qs (hC.out _) | with_reducible exact Qs (hP.out _) | with_reducible exact Qs (hQ.out _) | with_reducible exact Qs (hU.out _) | with_reducible exact Qs (hB.out _)))
  refine wpQuiet_nil ?_
  intro _ hw2
  obtain ⟨nq, hw3⟩ := hw2
  subst hw3
  obtain ⟨W2, hW2⟩ : ∃ W2, W.drewN nq = W2 := ⟨_, rfl⟩
  rw [hW2]
  have hb2 := Hd (show Below w.heap.size w W2 by rw [← hW2]; exact below_drewN hb1.out)
  have hbox2 := hbox.out
  replace hbox2 : IsC (W.drewN nq) _ _ _ := hbox2
  rw [hW2] at hbox2
  clear x0 x1 x2 x3 x4 x5 x6 x7 x8 x9 x10 x11 hE hC hP hQ hU hB
  obtain ⟨x0, x1, x2, x3, x4, x5, x6, x7, x8, x9, x10, x11⟩ := cells12 hbox2
  replace hbox2 := Hd hbox2
  replace hW2 := Hd hW2
  have hD := Hd (stq hD0.out W2)
  go_upto_region 6 with fail
  rcases alt (nzI cK) (alt (nzI cE) (alt (nzI cC) ((nzL cP).symm))) with ycK | ⟨rfl, ycE | ⟨rfl, ycC | ⟨rfl, ⟨ycP, ycP2⟩ | rfl⟩⟩⟩
  rotate_right
  ·refine wp_region_quietF ?_
   (try simp only [List.append_eq, List.cons_append, List.nil_append])
   repeat (go_big_quiet_step (first | with_reducible exact Qs (hD.out _)))
   refine wpQuiet_nil ?_
   intro _ hw2
   obtain ⟨nq, hw3⟩ := hw2
   subst hw3
   obtain ⟨W3, hW3⟩ : ∃ W3, W2.drewN nq = W3 := ⟨_, rfl⟩
   rw [hW3]
   have hb3 := Hd (show Below w.heap.size w W3 by rw [← hW3]; exact below_drewN hb2.out)
   have hbox3 := hbox2.out
   replace hbox3 : IsC (W2.drewN nq) _ _ _ := hbox3
   rw [hW3] at hbox3
   clear x0 x1 x2 x3 x4 x5 x6 x7 x8 x9 x10 x11 hD
   obtain ⟨x0, x1, x2, x3, x4, x5, x6, x7, x8, x9, x10, x11⟩ := cells12 hbox3
   replace hbox3 := Hd hbox3
   replace hW3 := Hd hW3
   have hb3s := hb3.out.size
   have cP3 := Hd (rparts_c [] (by have := hPu.out; simp only [List.length_nil] at *; omega) _ W3 (hP1.out.below hb3.out))
   go_wp2_with fail
   refine (hE0.out _).mono ?_
   rintro e w' ⟨rfl, rfl⟩
   go_wp2_with fail
   refine cP3.out.mono ?_
   rintro e w4 ⟨rfl, hb4⟩
   have hbox4 := Hd (isC_of hb4 hbox3.out)
   have hb5 := Hd (below_up hb3.out hb3s hb4)
   clear hb4 cP3 x0 x1 x2 x3 x4 x5 x6 x7 x8 x9 x10 x11
   obtain ⟨x0, x1, x2, x3, x4, x5, x6, x7, x8, x9, x10, x11⟩ := cells12 hbox4.out
   cases hpp : isPartsF [] with
   | false =>
     go_wp2_with fail
     go_ret
     exact ⟨by rw [← hR.out]; simp [ba0e, ba0s, hpp], hb5.out⟩
   | true =>
     obtain ⟨q3, q5⟩ := hep.out
     have p3 : (K == 3) = false := beq_eq_false_iff_ne.2 q3
     have p5 : (K == 5) = false := beq_eq_false_iff_ne.2 q5
     go_wp2_with fail
     refine (hQ0.out _).mono ?_
     rintro e w' ⟨rfl, rfl⟩
     have hA2 := hOu.out.A
     have hN2 := hOu.out.N
     unfold u32 at hA2 hN2
     dsimp only at hA2 hN2
     have cA := refIs_c A.toNat (by omega)
     have cM := refIs_c N.toNat (by omega)
     rw [show ((A.toNat : Nat) : Int) = A by omega] at cA
     rw [show ((N.toNat : Nat) : Int) = N by omega] at cM
     replace cA := Hd cA
     replace cM := Hd cM
     clear hA2 hN2
     have hb5s := hb5.out.size
     go_wp2_with fail
     refine (cA.out _).mono ?_
     rintro e w5 ⟨rfl, hb6⟩
     have hbox5 := Hd (isC_of hb6 hbox4.out)
     have hb7 := Hd (below_up hb5.out hb5s hb6)
     have hb7s := hb7.out.size
     clear hb6 cA x0 x1 x2 x3 x4 x5 x6 x7 x8 x9 x10 x11
     have x5 := hbox5.out.cell 5
     cases hiA : Sg.isF A.toNat with
     | false =>
       go_wp2_with fail
       go_ret
       exact ⟨by rw [← hR.out]; simp [ba0e, ba0s, hiA], hb7.out⟩
     | true =>
       go_wp2_with fail
       refine (cM.out _).mono ?_
       rintro e w6 ⟨rfl, hb8⟩
       have hb9 := Hd (below_up hb7.out hb7s hb8)
       clear hb8 cM x5
       cases hiN : Sg.isF N.toNat with
       | false =>
         go_wp2_with fail
         go_ret
         exact ⟨by rw [← hR.out]; simp [ba0e, ba0s, hiA, hiN], hb9.out⟩
       | true =>
         go_wp2_with fail
         refine (hD0.out _).mono ?_
         rintro e w' ⟨rfl, rfl⟩
         go_wp2_with fail
         go_ret
         exact ⟨by rw [← hR.out]; simp [ba0e, ba0s, hpp, q3, q5, hiA, hiN], hb9.out⟩
  all_goals
   refine wp_region_quietF ?_
   (try simp only [List.append_eq, List.cons_append, List.nil_append])
   repeat (go_big_quiet_step (first | with_reducible exact Qs (hD.out _)))
   refine wpQuiet_nil ?_
   intro _ hw2
   obtain ⟨nq, hw3⟩ := hw2
   subst hw3
   clear x0 x1 x2 x3 x4 x5 x6 x7 x8 x9 x10 x11
   go_wp2_with fail
   go_ret
   exact ⟨by rw [← hR.out]; simp [ba0e, ba0s, *], below_drewN hb2.out⟩
 all_goals
  refine wp_region_quietF ?_
  (try simp only [List.append_eq, List.cons_append, List.nil_append])
  repeat (go_big_quiet_step (first | with_reducible exact Qs (hE.out _) | with_reducible exact Qs (hC.out _) | with_reducible exact Qs (hP.out _) | with_reducible exact Qs (hQ.out _) | with_reducible exact Qs (hU.out _) | with_reducible exact Qs (hB.out _)))
  refine wpQuiet_nil ?_
  intro _ hw2
  obtain ⟨nq, hw3⟩ := hw2
  subst hw3
  clear x0 x1 x2 x3 x4 x5 x6 x7 x8 x9 x10 x11
  go_wp2_with fail
  go_ret
  exact ⟨by rw [← hR.out]; simp [ba0e, ba0s, *], below_drewN hb1.out⟩
theorem risL6 (o : OpD) (hK : 1 ≤ o.K ∧ o.K ≤ 11) (hl : bL o.K 101 = false ∧ bL o.K 99 = false ∧ bL o.K 112 = false ∧ bL o.K 113 = false ∧ bL o.K 117 = false ∧ bL o.K 98 = false ∧ bL o.K 100 = true) (hep : o.K ≠ 3 ∧ o.K ≠ 5) (hs : OpSmall o) (s t : Value) (w : World) (hin : OpIn w o s t)
 (hrec : isCmd o.cK = true → ∀ (w' : World) (s' : Value), InS w' s' o.cP → Calls Tryz.prog 10 #[opv (asOpF o.cK o.cE o.cC o.cP) s' (.slice none 0 0)] w' fun e w2 => e = .returned (.bool (is1F (asOpF o.cK o.cE o.cC o.cP))) ∧ Below w'.heap.size w' w2) :
 Calls Tryz.prog 10 #[opv o s t] w fun e w' => e = .returned (.bool (isOpF o)) ∧ Below w.heap.size w w' := by
 obtain ⟨hi1, hi2⟩ := hin
 obtain ⟨a, c, rfl, _⟩ := id hi1
 obtain ⟨b, d, rfl, _⟩ := id hi2
 have hb1 := below1 w (.cells (opc o (.slice a o.P.length c) (.slice b o.cP.length d)) 38)
 have hbox := IsC.new w 38 (opc o (.slice a o.P.length c) (.slice b o.cP.length d))
 have cN := names_c o.K
 obtain ⟨R, hR⟩ : ∃ R, isOpF o = R := ⟨_, rfl⟩
 rw [hR]
 obtain ⟨NM, hNM⟩ : ∃ x, text (namesF o.K) = x := ⟨_, rfl⟩
 rw [hNM] at cN
 rw [isOp_offs o hK] at hR
 have hh : ∀ (x : UInt8) (b : Bool), bL o.K x = b → Still 29 #[.string NM, .int .u8 (x.toNat : Int)] (.bool b) := has_let o.K NM hNM
 obtain ⟨eE, eC, eP, eQ, eU, eB, eD⟩ := hl
 have hE0 : Still 29 #[.string NM, .int .u8 101] (.bool false) := hh 101 _ eE
 have hC0 : Still 29 #[.string NM, .int .u8 99] (.bool false) := hh 99 _ eC
 have hP0 : Still 29 #[.string NM, .int .u8 112] (.bool false) := hh 112 _ eP
 have hQ0 : Still 29 #[.string NM, .int .u8 113] (.bool false) := hh 113 _ eQ
 have hU0 : Still 29 #[.string NM, .int .u8 117] (.bool false) := hh 117 _ eU
 have hB0 : Still 29 #[.string NM, .int .u8 98] (.bool false) := hh 98 _ eB
 have hD0 : Still 29 #[.string NM, .int .u8 100] (.bool true) := hh 100 _ eD
 unfold off4 offE offC offP offQ offU offB offD nz off8 off10 last12 at hR
 have hPu := hs.P.1
 have hOu := hs.ok
 clear hs
 obtain ⟨K, E, C, P, A, N, cK, cE, cC, cP, U, B⟩ := o
 dsimp only at *
 simp only [← bL_def, eE, eC, eP, eQ, eU, eB, eD] at hR
 unfold opv
 unfold opc at hb1 hbox
 dsimp only at hb1 hbox ⊢
 have hP1 := Hd hi1
 have hP2 := Hd hi2
 clear hi1 hi2 hNM hh eE eC eP eQ eU eB eD
 obtain ⟨W, hW⟩ : ∃ W, w.alloc (.cells #[.int .i64 K, .int .u64 E, .int .i64 C, .slice a P.length c, .int .u32 A, .int .u32 N, .int .i64 cK, .int .u64 cE, .int .i64 cC, .slice b cP.length d, .int .i64 U, .string B] 38) = W := ⟨_, rfl⟩
 rw [hW] at hb1 hbox
 obtain ⟨x0, x1, x2, x3, x4, x5, x6, x7, x8, x9, x10, x11⟩ := cells12 hbox
 replace hb1 := Hd hb1
 replace hbox := Hd hbox
 replace hR := Hd hR
 replace hPu := Hd hPu
 replace hOu := Hd hOu
 replace hep := Hd hep
 replace hrec := Hd hrec
 replace hE0 := Hd hE0
 replace hC0 := Hd hC0
 replace hP0 := Hd hP0
 replace hQ0 := Hd hQ0
 replace hU0 := Hd hU0
 replace hB0 := Hd hB0
 replace hD0 := Hd hD0
 have hE := Hd (stq hE0.out W)
 have hC := Hd (stq hC0.out W)
 have hP := Hd (stq hP0.out W)
 have hQ := Hd (stq hQ0.out W)
 have hU := Hd (stq hU0.out W)
 have hB := Hd (stq hB0.out W)
 have k1 : decide (K < 1) = false := decide_eq_false (by omega)
 have k2 : decide (11 < K) = false := decide_eq_false (by omega)
 go_enter Tryz.func10, Tryz.ntmps10
 go_wp2_with fail
 replace hW := Hd hW
 refine (cN.on _).mono ?_
 rintro e w' ⟨rfl, rfl⟩
 clear cN
 go_upto_region 4 with fail
 clear k1 k2
 rcases alt (nzI E) (alt (nzI C) (alt (nzL P) (alt (nzI A) (alt (nzI N) (alt (nzI U) ((nzB B).symm)))))) with yE | ⟨rfl, yC | ⟨rfl, ⟨yP, yP2⟩ | ⟨rfl, yA | ⟨rfl, yN | ⟨rfl, yU | ⟨rfl, ⟨yB, yB2⟩ | rfl⟩⟩⟩⟩⟩⟩
 rotate_right
 ·refine wp_region_quietF ?_
  (try simp only [List.append_eq, List.cons_append, List.nil_append])
  repeat (go_big_quiet_step (first | with_reducible exact Qs (hE.out _) | with_reducible exact Qs (hC.out _) | with_reducible exact Qs (hP.out _) | with_reducible exact Qs (hQ.out _) | with_reducible exact Qs (hU.out _) | with_reducible exact Qs (hB.out _)))
  refine wpQuiet_nil ?_
  intro _ hw2
  obtain ⟨nq, hw3⟩ := hw2
  subst hw3
  obtain ⟨W2, hW2⟩ : ∃ W2, W.drewN nq = W2 := ⟨_, rfl⟩
  rw [hW2]
  have hb2 := Hd (show Below w.heap.size w W2 by rw [← hW2]; exact below_drewN hb1.out)
  have hbox2 := hbox.out
  replace hbox2 : IsC (W.drewN nq) _ _ _ := hbox2
  rw [hW2] at hbox2
  clear x0 x1 x2 x3 x4 x5 x6 x7 x8 x9 x10 x11 hE hC hP hQ hU hB
  obtain ⟨x0, x1, x2, x3, x4, x5, x6, x7, x8, x9, x10, x11⟩ := cells12 hbox2
  replace hbox2 := Hd hbox2
  replace hW2 := Hd hW2
  have hD := Hd (stq hD0.out W2)
  go_upto_region 6 with fail
  refine wp_region_quietF ?_
  (try simp only [List.append_eq, List.cons_append, List.nil_append])
  repeat (go_big_quiet_step (first | with_reducible exact Qs (hD.out _)))
  refine wpQuiet_nil ?_
  intro _ hw2
  obtain ⟨nq, hw3⟩ := hw2
  subst hw3
  obtain ⟨W3, hW3⟩ : ∃ W3, W2.drewN nq = W3 := ⟨_, rfl⟩
  rw [hW3]
  have hb3 := Hd (show Below w.heap.size w W3 by rw [← hW3]; exact below_drewN hb2.out)
  have hbox3 := hbox2.out
  replace hbox3 : IsC (W2.drewN nq) _ _ _ := hbox3
  rw [hW3] at hbox3
  clear x0 x1 x2 x3 x4 x5 x6 x7 x8 x9 x10 x11 hD
  obtain ⟨x0, x1, x2, x3, x4, x5, x6, x7, x8, x9, x10, x11⟩ := cells12 hbox3
  replace hbox3 := Hd hbox3
  replace hW3 := Hd hW3
  have hb3s := hb3.out.size
  have cP3 := Hd (rparts_c [] (by have := hPu.out; simp only [List.length_nil] at *; omega) _ W3 (hP1.out.below hb3.out))
  go_wp2_with fail
  refine (hE0.out _).mono ?_
  rintro e w' ⟨rfl, rfl⟩
  go_wp2_with fail
  refine cP3.out.mono ?_
  rintro e w4 ⟨rfl, hb4⟩
  have hbox4 := Hd (isC_of hb4 hbox3.out)
  have hb5 := Hd (below_up hb3.out hb3s hb4)
  clear hb4 cP3 x0 x1 x2 x3 x4 x5 x6 x7 x8 x9 x10 x11
  obtain ⟨x0, x1, x2, x3, x4, x5, x6, x7, x8, x9, x10, x11⟩ := cells12 hbox4.out
  cases hpp : isPartsF [] with
  | false =>
    go_wp2_with fail
    go_ret
    exact ⟨by rw [← hR.out]; simp [ba0e, ba0s, hpp], hb5.out⟩
  | true =>
    obtain ⟨q3, q5⟩ := hep.out
    have p3 : (K == 3) = false := beq_eq_false_iff_ne.2 q3
    have p5 : (K == 5) = false := beq_eq_false_iff_ne.2 q5
    go_wp2_with fail
    refine (hQ0.out _).mono ?_
    rintro e w' ⟨rfl, rfl⟩
    go_wp2_with fail
    refine (hD0.out _).mono ?_
    rintro e w' ⟨rfl, rfl⟩
    by_cases q1 : 1 ≤ cK
    ·have p1 : decide (1 ≤ cK) = true := decide_eq_true q1
     by_cases q2 : cK ≤ 5
     ·have p2 : decide (cK ≤ 5) = true := decide_eq_true q2
      have hcm : isCmd cK = true := by unfold isCmd; rw [p1, p2]; rfl
      have c1 := rcommand_c cK cE cC hcm cP (.slice b cP.length d) w4 (hP2.out.below hb5.out)
      have cI := hrec.out hcm
      unfold cmdv at c1
      obtain ⟨Z, hZ⟩ : ∃ Z, is1F (asOpF cK cE cC cP) = Z := ⟨_, rfl⟩
      rw [hZ] at cI
      replace c1 := Hd c1
      replace cI := Hd cI
      replace hcm := Hd hcm
      replace hZ := Hd hZ
      have hb5s := hb5.out.size
      clear q1 q2
      go_wp2_with fail
      refine c1.out.mono ?_
      rintro e w5 ⟨rfl, hb6⟩
      have c2 := Hd (cI.out w5 _ ((hP2.out.below hb5.out).below hb6))
      have hb7 := Hd (below_up hb5.out hb5s hb6)
      have hb7s := hb7.out.size
      clear hb6 c1 cI
      go_wp2_with fail
      refine c2.out.mono ?_
      rintro e w6 ⟨rfl, hb8⟩
      have hb9 := Hd (below_up hb7.out hb7s hb8)
      clear hb8 c2
      go_wp2_with fail
      go_ret
      exact ⟨by rw [← hR.out, hcm.out, hZ.out]; simp [ba0e, ba0s, hpp, q3, q5], hb9.out⟩
     ·have p2 : decide (cK ≤ 5) = false := decide_eq_false q2
      have hcm : isCmd cK = false := by unfold isCmd; rw [p2, Bool.and_false]
      clear q1 q2
      go_wp2_with fail
      go_ret
      exact ⟨by rw [← hR.out, hcm]; simp, hb5.out⟩
    ·have p1 : decide (1 ≤ cK) = false := decide_eq_false q1
     have hcm : isCmd cK = false := by unfold isCmd; rw [p1, Bool.false_and]
     clear q1
     go_wp2_with fail
     go_ret
     exact ⟨by rw [← hR.out, hcm]; simp, hb5.out⟩
 all_goals
  refine wp_region_quietF ?_
  (try simp only [List.append_eq, List.cons_append, List.nil_append])
  repeat (go_big_quiet_step (first | with_reducible exact Qs (hE.out _) | with_reducible exact Qs (hC.out _) | with_reducible exact Qs (hP.out _) | with_reducible exact Qs (hQ.out _) | with_reducible exact Qs (hU.out _) | with_reducible exact Qs (hB.out _)))
  refine wpQuiet_nil ?_
  intro _ hw2
  obtain ⟨nq, hw3⟩ := hw2
  subst hw3
  clear x0 x1 x2 x3 x4 x5 x6 x7 x8 x9 x10 x11
  go_wp2_with fail
  go_ret
  exact ⟨by rw [← hR.out]; simp [ba0e, ba0s, *], below_drewN hb1.out⟩
end Go.Proofs.YtjjgbillihedgaaGreatDoor
