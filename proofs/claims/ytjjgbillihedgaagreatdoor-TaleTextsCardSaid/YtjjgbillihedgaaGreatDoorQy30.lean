/- parts of the proof, merged: TlI1, TlI2, TlI3 -/
import Derived.Test.YtjjgbillihedgaaGreatDoorQy29
set_option linter.unusedSimpArgs false
set_option linter.unusedVariables false
set_option maxHeartbeats 64000000
set_option maxRecDepth 100000
namespace Go.Proofs.YtjjgbillihedgaaGreatDoor
open Go.RowKit
open Go.BigFrame
open Rf
open Sg
open Wide
open Tl
theorem risL1 (o : OpD) (hK : 1 ≤ o.K ∧ o.K ≤ 11) (hl : bL o.K 101 = false ∧ bL o.K 99 = false ∧ bL o.K 112 = true ∧ bL o.K 113 = false ∧ bL o.K 117 = false ∧ bL o.K 98 = false ∧ bL o.K 100 = false) (hep : o.K ≠ 3 ∧ o.K ≠ 5) (hs : OpSmall o) (s t : Value) (w : World) (hin : OpIn w o s t) :
 Calls Tryz.prog 10 #[opv o s t] w fun e w' => e = .returned (.bool (isOpF o)) ∧ Below w.heap.size w w' := by
 obtain ⟨hi1, hi2⟩ := hin
 obtain ⟨a, c, rfl, _⟩ := id hi1
 obtain ⟨b, d, rfl, _⟩ := id hi2
 have hb1 := below1 w (.cells (opc o (.slice a o.P.length c) (.slice b o.cP.length d)) 38)
 have hbox := IsC.new w 38 (opc o (.slice a o.P.length c) (.slice b o.cP.length d))
 have cN := names_c o.K
 obtain ⟨R, hR⟩ : ∃ R, isOpF o = R := ⟨_, rfl⟩
 rw [hR]
 obtain ⟨NM, hNM⟩ : ∃ x, text (namesF o.K) = x := ⟨_, rfl⟩
 rw [hNM] at cN
 rw [isOp_offs o hK] at hR
 have hh : ∀ (x : UInt8) (b : Bool), bL o.K x = b → Still 29 #[.string NM, .int .u8 (x.toNat : Int)] (.bool b) := has_let o.K NM hNM
 obtain ⟨eE, eC, eP, eQ, eU, eB, eD⟩ := hl
 have hE0 : Still 29 #[.string NM, .int .u8 101] (.bool false) := hh 101 _ eE
 have hC0 : Still 29 #[.string NM, .int .u8 99] (.bool false) := hh 99 _ eC
 have hP0 : Still 29 #[.string NM, .int .u8 112] (.bool true) := hh 112 _ eP
 have hQ0 : Still 29 #[.string NM, .int .u8 113] (.bool false) := hh 113 _ eQ
 have hU0 : Still 29 #[.string NM, .int .u8 117] (.bool false) := hh 117 _ eU
 have hB0 : Still 29 #[.string NM, .int .u8 98] (.bool false) := hh 98 _ eB
 have hD0 : Still 29 #[.string NM, .int .u8 100] (.bool false) := hh 100 _ eD
 unfold off4 offE offC offP offQ offU offB offD nz off8 off10 last12 at hR
 have hPu := hs.P.1
 have hOu := hs.ok
 clear hs
 obtain ⟨K, E, C, P, A, N, cK, cE, cC, cP, U, B⟩ := o
 dsimp only at *
 simp only [← bL_def, eE, eC, eP, eQ, eU, eB, eD] at hR
 unfold opv
 unfold opc at hb1 hbox
 dsimp only at hb1 hbox ⊢
 have hP1 := Hd hi1
 have hP2 := Hd hi2
 clear hi1 hi2 hNM hh eE eC eP eQ eU eB eD
 obtain ⟨W, hW⟩ : ∃ W, w.alloc (.cells #[.int .i64 K, .int .u64 E, .int .i64 C, .slice a P.length c, .int .u32 A, .int .u32 N, .int .i64 cK, .int .u64 cE, .int .i64 cC, .slice b cP.length d, .int .i64 U, .string B] 38) = W := ⟨_, rfl⟩
 rw [hW] at hb1 hbox
 obtain ⟨x0, x1, x2, x3, x4, x5, x6, x7, x8, x9, x10, x11⟩ := cells12 hbox
 replace hb1 := Hd hb1
 replace hbox := Hd hbox
 replace hR := Hd hR
 replace hPu := Hd hPu
 replace hOu := Hd hOu
 replace hep := Hd hep
 replace hE0 := Hd hE0
 replace hC0 := Hd hC0
 replace hP0 := Hd hP0
 replace hQ0 := Hd hQ0
 replace hU0 := Hd hU0
 replace hB0 := Hd hB0
 replace hD0 := Hd hD0
 have hE := Hd (stq hE0.out W)
 have hC := Hd (stq hC0.out W)
 have hP := Hd (stq hP0.out W)
 have hQ := Hd (stq hQ0.out W)
 have hU := Hd (stq hU0.out W)
 have hB := Hd (stq hB0.out W)
 have k1 : decide (K < 1) = false := decide_eq_false (by omega)
 have k2 : decide (11 < K) = false := decide_eq_false (by omega)
 go_enter Tryz.func10, Tryz.ntmps10
 go_wp2_with fail
 replace hW := Hd hW
 refine (cN.on _).mono ?_
 rintro e w' ⟨rfl, rfl⟩
 clear cN
 go_upto_region 4 with fail
 clear k1 k2
 rcases alt (nzI E) (alt (nzI C) (alt (nzI A) (alt (nzI N) (alt (nzI U) ((nzB B).symm))))) with yE | ⟨rfl, yC | ⟨rfl, yA | ⟨rfl, yN | ⟨rfl, yU | ⟨rfl, ⟨yB, yB2⟩ | rfl⟩⟩⟩⟩⟩
 rotate_right
 ·refine wp_region_quietF ?_
  (try simp only [List.append_eq, List.cons_append, List.nil_append])
  repeat (go_big_quiet_step (first | with_reducible exact Qs (hE.out _) | with_reducible exact Qs (hC.out _) | with_reducible exact Qs (hP.out _) | with_reducible exact Qs (hQ.out _) | with_reducible exact Qs (hU.out _) | with_reducible exact Qs (hB.out _)))
  refine wpQuiet_nil ?_
  intro _ hw2
  obtain ⟨nq, hw3⟩ := hw2
  subst hw3
  obtain ⟨W2, hW2⟩ : ∃ W2, W.drewN nq = W2 := ⟨_, rfl⟩
  rw [hW2]
  have hb2 := Hd (show Below w.heap.size w W2 by rw [← hW2]; exact below_drewN hb1.out)
  have hbox2 := hbox.out
  replace hbox2 : IsC (W.drewN nq) _ _ _ := hbox2
  rw [hW2] at hbox2
  clear x0 x1 x2 x3 x4 x5 x6 x7 x8 x9 x10 x11 hE hC hP hQ hU hB
  obtain ⟨x0, x1, x2, x3, x4, x5, x6, x7, x8, x9, x10, x11⟩ := cells12 hbox2
  replace hbox2 := Hd hbox2
  replace hW2 := Hd hW2
  have hD := Hd (stq hD0.out W2)
  go_upto_region 6 with fail
  rcases alt (nzI cK) (alt (nzI cE) (alt (nzI cC) ((nzL cP).symm))) with ycK | ⟨rfl, ycE | ⟨rfl, ycC | ⟨rfl, ⟨ycP, ycP2⟩ | rfl⟩⟩⟩
  rotate_right
  ·refine wp_region_quietF ?_
   (try simp only [List.append_eq, List.cons_append, List.nil_append])
   repeat (go_big_quiet_step (first | with_reducible exact Qs (hD.out _)))
   refine wpQuiet_nil ?_
   intro _ hw2
   obtain ⟨nq, hw3⟩ := hw2
   subst hw3
   obtain ⟨W3, hW3⟩ : ∃ W3, W2.drewN nq = W3 := ⟨_, rfl⟩
   rw [hW3]
   have hb3 := Hd (show Below w.heap.size w W3 by rw [← hW3]; exact below_drewN hb2.out)
   have hbox3 := hbox2.out
   replace hbox3 : IsC (W2.drewN nq) _ _ _ := hbox3
   rw [hW3] at hbox3
   clear x0 x1 x2 x3 x4 x5 x6 x7 x8 x9 x10 x11 hD
   obtain ⟨x0, x1, x2, x3, x4, x5, x6, x7, x8, x9, x10, x11⟩ := cells12 hbox3
   replace hbox3 := Hd hbox3
   replace hW3 := Hd hW3
   have hb3s := hb3.out.size
   have cP3 := Hd (rparts_c P (by have := hPu.out; simp only [List.length_nil] at *; omega) _ W3 (hP1.out.below hb3.out))
   go_wp2_with fail
   refine (hE0.out _).mono ?_
   rintro e w' ⟨rfl, rfl⟩
   go_wp2_with fail
   refine cP3.out.mono ?_
   rintro e w4 ⟨rfl, hb4⟩
   have hbox4 := Hd (isC_of hb4 hbox3.out)
   have hb5 := Hd (below_up hb3.out hb3s hb4)
   clear hb4 cP3 x0 x1 x2 x3 x4 x5 x6 x7 x8 x9 x10 x11
   obtain ⟨x0, x1, x2, x3, x4, x5, x6, x7, x8, x9, x10, x11⟩ := cells12 hbox4.out
   cases hpp : isPartsF P with
   | false =>
     go_wp2_with fail
     go_ret
     exact ⟨by rw [← hR.out]; simp [ba0e, ba0s, hpp], hb5.out⟩
   | true =>
     obtain ⟨q3, q5⟩ := hep.out
     have p3 : (K == 3) = false := beq_eq_false_iff_ne.2 q3
     have p5 : (K == 5) = false := beq_eq_false_iff_ne.2 q5
     go_wp2_with fail
     refine (hQ0.out _).mono ?_
     rintro e w' ⟨rfl, rfl⟩
     go_wp2_with fail
     refine (hD0.out _).mono ?_
     rintro e w' ⟨rfl, rfl⟩
     go_wp2_with fail
     go_ret
     exact ⟨by rw [← hR.out]; simp [ba0e, ba0s, hpp, q3, q5], hb5.out⟩
  all_goals
   refine wp_region_quietF ?_
   (try simp only [List.append_eq, List.cons_append, List.nil_append])
   repeat (go_big_quiet_step (first | with_reducible exact Qs (hD.out _)))
   refine wpQuiet_nil ?_
   intro _ hw2
   obtain ⟨nq, hw3⟩ := hw2
   subst hw3
   clear x0 x1 x2 x3 x4 x5 x6 x7 x8 x9 x10 x11
   go_wp2_with fail
   go_ret
   exact ⟨by rw [← hR.out]; simp [ba0e, ba0s, *], below_drewN hb2.out⟩
 all_goals
  refine wp_region_quietF ?_
  (try simp only [List.append_eq, List.cons_append, List.nil_append])
  repeat (go_big_quiet_step (first | with_reducible exact Qs (hE.out _) | with_reducible exact Qs (hC.out _) | with_reducible exact Qs (hP.out _) | with_reducible exact Qs (hQ.out _) | with_reducible exact Qs (hU.out _) | with_reducible exact Qs (hB.out _)))
  refine wpQuiet_nil ?_
  intro _ hw2
  obtain ⟨nq, hw3⟩ := hw2
  subst hw3
  clear x0 x1 x2 x3 x4 x5 x6 x7 x8 x9 x10 x11
  go_wp2_with fail
  go_ret
  exact ⟨by rw [← hR.out]; simp [ba0e, ba0s, *], below_drewN hb1.out⟩
theorem risL2 (o : OpD) (hK : 1 ≤ o.K ∧ o.K ≤ 11) (hl : bL o.K 101 = true ∧ bL o.K 99 = false ∧ bL o.K 112 = false ∧ bL o.K 113 = false ∧ bL o.K 117 = false ∧ bL o.K 98 = false ∧ bL o.K 100 = false) (hep : o.K ≠ 3 ∧ o.K ≠ 5) (hs : OpSmall o) (s t : Value) (w : World) (hin : OpIn w o s t) :
 Calls Tryz.prog 10 #[opv o s t] w fun e w' => e = .returned (.bool (isOpF o)) ∧ Below w.heap.size w w' := by
 obtain ⟨hi1, hi2⟩ := hin
 obtain ⟨a, c, rfl, _⟩ := id hi1
 obtain ⟨b, d, rfl, _⟩ := id hi2
 have hb1 := below1 w (.cells (opc o (.slice a o.P.length c) (.slice b o.cP.length d)) 38)
 have hbox := IsC.new w 38 (opc o (.slice a o.P.length c) (.slice b o.cP.length d))
 have cN := names_c o.K
 obtain ⟨R, hR⟩ : ∃ R, isOpF o = R := ⟨_, rfl⟩
 rw [hR]
 obtain ⟨NM, hNM⟩ : ∃ x, text (namesF o.K) = x := ⟨_, rfl⟩
 rw [hNM] at cN
 rw [isOp_offs o hK] at hR
 have hh : ∀ (x : UInt8) (b : Bool), bL o.K x = b → Still 29 #[.string NM, .int .u8 (x.toNat : Int)] (.bool b) := has_let o.K NM hNM
 obtain ⟨eE, eC, eP, eQ, eU, eB, eD⟩ := hl
 have hE0 : Still 29 #[.string NM, .int .u8 101] (.bool true) := hh 101 _ eE
 have hC0 : Still 29 #[.string NM, .int .u8 99] (.bool false) := hh 99 _ eC
 have hP0 : Still 29 #[.string NM, .int .u8 112] (.bool false) := hh 112 _ eP
 have hQ0 : Still 29 #[.string NM, .int .u8 113] (.bool false) := hh 113 _ eQ
 have hU0 : Still 29 #[.string NM, .int .u8 117] (.bool false) := hh 117 _ eU
 have hB0 : Still 29 #[.string NM, .int .u8 98] (.bool false) := hh 98 _ eB
 have hD0 : Still 29 #[.string NM, .int .u8 100] (.bool false) := hh 100 _ eD
 unfold off4 offE offC offP offQ offU offB offD nz off8 off10 last12 at hR
 have hPu := hs.P.1
 have hOu := hs.ok
 clear hs
 obtain ⟨K, E, C, P, A, N, cK, cE, cC, cP, U, B⟩ := o
 dsimp only at *
 simp only [← bL_def, eE, eC, eP, eQ, eU, eB, eD] at hR
 unfold opv
 unfold opc at hb1 hbox
 dsimp only at hb1 hbox ⊢
 have hP1 := Hd hi1
 have hP2 := Hd hi2
 clear hi1 hi2 hNM hh eE eC eP eQ eU eB eD
 obtain ⟨W, hW⟩ : ∃ W, w.alloc (.cells #[.int .i64 K, .int .u64 E, .int .i64 C, .slice a P.length c, .int .u32 A, .int .u32 N, .int .i64 cK, .int .u64 cE, .int .i64 cC, .slice b cP.length d, .int .i64 U, .string B] 38) = W := ⟨_, rfl⟩
 rw [hW] at hb1 hbox
 obtain ⟨x0, x1, x2, x3, x4, x5, x6, x7, x8, x9, x10, x11⟩ := cells12 hbox
 replace hb1 := Hd hb1
 replace hbox := Hd hbox
 replace hR := Hd hR
 replace hPu := Hd hPu
 replace hOu := Hd hOu
 replace hep := Hd hep
 replace hE0 := Hd hE0
 replace hC0 := Hd hC0
 replace hP0 := Hd hP0
 replace hQ0 := Hd hQ0
 replace hU0 := Hd hU0
 replace hB0 := Hd hB0
 replace hD0 := Hd hD0
 have hE := Hd (stq hE0.out W)
 have hC := Hd (stq hC0.out W)
 have hP := Hd (stq hP0.out W)
 have hQ := Hd (stq hQ0.out W)
 have hU := Hd (stq hU0.out W)
 have hB := Hd (stq hB0.out W)
 have k1 : decide (K < 1) = false := decide_eq_false (by omega)
 have k2 : decide (11 < K) = false := decide_eq_false (by omega)
 go_enter Tryz.func10, Tryz.ntmps10
 go_wp2_with fail
 replace hW := Hd hW
 refine (cN.on _).mono ?_
 rintro e w' ⟨rfl, rfl⟩
 clear cN
 go_upto_region 4 with fail
 clear k1 k2
 rcases alt (nzI C) (alt (nzL P) (alt (nzI A) (alt (nzI N) (alt (nzI U) ((nzB B).symm))))) with yC | ⟨rfl, ⟨yP, yP2⟩ | ⟨rfl, yA | ⟨rfl, yN | ⟨rfl, yU | ⟨rfl, ⟨yB, yB2⟩ | rfl⟩⟩⟩⟩⟩
 rotate_right
 ·refine wp_region_quietF ?_
  (try simp only [List.append_eq, List.cons_append, List.nil_append])
  repeat (go_big_quiet_step (first | with_reducible exact Qs (hE.out _) | with_reducible exact Qs (hC.out _) | with_reducible exact Qs (hP.out _) | with_reducible exact Qs (hQ.out _) | with_reducible exact Qs (hU.out _) | with_reducible exact Qs (hB.out _)))
  refine wpQuiet_nil ?_
  intro _ hw2
  obtain ⟨nq, hw3⟩ := hw2
  subst hw3
  obtain ⟨W2, hW2⟩ : ∃ W2, W.drewN nq = W2 := ⟨_, rfl⟩
  rw [hW2]
  have hb2 := Hd (show Below w.heap.size w W2 by rw [← hW2]; exact below_drewN hb1.out)
  have hbox2 := hbox.out
  replace hbox2 : IsC (W.drewN nq) _ _ _ := hbox2
  rw [hW2] at hbox2
  clear x0 x1 x2 x3 x4 x5 x6 x7 x8 x9 x10 x11 hE hC hP hQ hU hB
  obtain ⟨x0, x1, x2, x3, x4, x5, x6, x7, x8, x9, x10, x11⟩ := cells12 hbox2
  replace hbox2 := Hd hbox2
  replace hW2 := Hd hW2
  have hD := Hd (stq hD0.out W2)
  go_upto_region 6 with fail
  rcases alt (nzI cK) (alt (nzI cE) (alt (nzI cC) ((nzL cP).symm))) with ycK | ⟨rfl, ycE | ⟨rfl, ycC | ⟨rfl, ⟨ycP, ycP2⟩ | rfl⟩⟩⟩
  rotate_right
  ·refine wp_region_quietF ?_
   (try simp only [List.append_eq, List.cons_append, List.nil_append])
   repeat (go_big_quiet_step (first | with_reducible exact Qs (hD.out _)))
   refine wpQuiet_nil ?_
   intro _ hw2
   obtain ⟨nq, hw3⟩ := hw2
   subst hw3
   obtain ⟨W3, hW3⟩ : ∃ W3, W2.drewN nq = W3 := ⟨_, rfl⟩
   rw [hW3]
   have hb3 := Hd (show Below w.heap.size w W3 by rw [← hW3]; exact below_drewN hb2.out)
   have hbox3 := hbox2.out
   replace hbox3 : IsC (W2.drewN nq) _ _ _ := hbox3
   rw [hW3] at hbox3
   clear x0 x1 x2 x3 x4 x5 x6 x7 x8 x9 x10 x11 hD
   obtain ⟨x0, x1, x2, x3, x4, x5, x6, x7, x8, x9, x10, x11⟩ := cells12 hbox3
   replace hbox3 := Hd hbox3
   replace hW3 := Hd hW3
   have hb3s := hb3.out.size
   have cP3 := Hd (rparts_c [] (by have := hPu.out; simp only [List.length_nil] at *; omega) _ W3 (hP1.out.below hb3.out))
   go_wp2_with fail
   refine (hE0.out _).mono ?_
   rintro e w' ⟨rfl, rfl⟩
   have hE1 := hOu.out.E
   unfold u64 at hE1
   have cEnt := refEnt_c E hE1.1 (by dsimp only at hE1; omega)
   have hent : (decide (0 < E % 4294967296) && decide (0 < E / 4294967296)) = isEntF E := by
    unfold isEntF idF genF
    congr 1 <;> (congr 1; exact propext (by constructor <;> intro h <;> omega))
   rw [hent] at cEnt
   replace cEnt := Hd cEnt
   clear hent hE1
   go_wp2_with fail
   refine (cEnt.out.on _).mono ?_
   rintro e w' ⟨rfl, rfl⟩
   cases hen : isEntF E with
   | false =>
     go_wp2_with fail
     go_ret
     exact ⟨by rw [← hR.out]; simp [ba0e, ba0s, hen], hb3.out⟩
   | true =>
     go_wp2_with fail
     refine cP3.out.mono ?_
     rintro e w4 ⟨rfl, hb4⟩
     have hbox4 := Hd (isC_of hb4 hbox3.out)
     have hb5 := Hd (below_up hb3.out hb3s hb4)
     clear hb4 cP3 x0 x1 x2 x3 x4 x5 x6 x7 x8 x9 x10 x11
     obtain ⟨x0, x1, x2, x3, x4, x5, x6, x7, x8, x9, x10, x11⟩ := cells12 hbox4.out
     cases hpp : isPartsF [] with
     | false =>
       go_wp2_with fail
       go_ret
       exact ⟨by rw [← hR.out]; simp [ba0e, ba0s, hpp], hb5.out⟩
     | true =>
       obtain ⟨q3, q5⟩ := hep.out
       have p3 : (K == 3) = false := beq_eq_false_iff_ne.2 q3
       have p5 : (K == 5) = false := beq_eq_false_iff_ne.2 q5
       go_wp2_with fail
       refine (hQ0.out _).mono ?_
       rintro e w' ⟨rfl, rfl⟩
       go_wp2_with fail
       refine (hD0.out _).mono ?_
       rintro e w' ⟨rfl, rfl⟩
       go_wp2_with fail
       go_ret
       exact ⟨by rw [← hR.out]; simp [ba0e, ba0s, hpp, hen, q3, q5], hb5.out⟩
  all_goals
   refine wp_region_quietF ?_
   (try simp only [List.append_eq, List.cons_append, List.nil_append])
   repeat (go_big_quiet_step (first | with_reducible exact Qs (hD.out _)))
   refine wpQuiet_nil ?_
   intro _ hw2
   obtain ⟨nq, hw3⟩ := hw2
   subst hw3
   clear x0 x1 x2 x3 x4 x5 x6 x7 x8 x9 x10 x11
   go_wp2_with fail
   go_ret
   exact ⟨by rw [← hR.out]; simp [ba0e, ba0s, *], below_drewN hb2.out⟩
 all_goals
  refine wp_region_quietF ?_
  (try simp only [List.append_eq, List.cons_append, List.nil_append])
  repeat (go_big_quiet_step (first | with_reducible exact Qs (hE.out _) | with_reducible exact Qs (hC.out _) | with_reducible exact Qs (hP.out _) | with_reducible exact Qs (hQ.out _) | with_reducible exact Qs (hU.out _) | with_reducible exact Qs (hB.out _)))
  refine wpQuiet_nil ?_
  intro _ hw2
  obtain ⟨nq, hw3⟩ := hw2
  subst hw3
  clear x0 x1 x2 x3 x4 x5 x6 x7 x8 x9 x10 x11
  go_wp2_with fail
  go_ret
  exact ⟨by rw [← hR.out]; simp [ba0e, ba0s, *], below_drewN hb1.out⟩
theorem risL3 (o : OpD) (hK : 1 ≤ o.K ∧ o.K ≤ 11) (hl : bL o.K 101 = true ∧ bL o.K 99 = false ∧ bL o.K 112 = true ∧ bL o.K 113 = false ∧ bL o.K 117 = false ∧ bL o.K 98 = false ∧ bL o.K 100 = false) (hep : o.K = 3 ∨ o.K = 5) (hs : OpSmall o) (s t : Value) (w : World) (hin : OpIn w o s t) :
 Calls Tryz.prog 10 #[opv o s t] w fun e w' => e = .returned (.bool (isOpF o)) ∧ Below w.heap.size w w' := by
 obtain ⟨hi1, hi2⟩ := hin
 obtain ⟨a, c, rfl, _⟩ := id hi1
 obtain ⟨b, d, rfl, _⟩ := id hi2
 have hb1 := below1 w (.cells (opc o (.slice a o.P.length c) (.slice b o.cP.length d)) 38)
 have hbox := IsC.new w 38 (opc o (.slice a o.P.length c) (.slice b o.cP.length d))
 have cN := names_c o.K
 obtain ⟨R, hR⟩ : ∃ R, isOpF o = R := ⟨_, rfl⟩
 rw [hR]
 obtain ⟨NM, hNM⟩ : ∃ x, text (namesF o.K) = x := ⟨_, rfl⟩
 rw [hNM] at cN
 rw [isOp_offs o hK] at hR
 have hh : ∀ (x : UInt8) (b : Bool), bL o.K x = b → Still 29 #[.string NM, .int .u8 (x.toNat : Int)] (.bool b) := has_let o.K NM hNM
 obtain ⟨eE, eC, eP, eQ, eU, eB, eD⟩ := hl
 have hE0 : Still 29 #[.string NM, .int .u8 101] (.bool true) := hh 101 _ eE
 have hC0 : Still 29 #[.string NM, .int .u8 99] (.bool false) := hh 99 _ eC
 have hP0 : Still 29 #[.string NM, .int .u8 112] (.bool true) := hh 112 _ eP
 have hQ0 : Still 29 #[.string NM, .int .u8 113] (.bool false) := hh 113 _ eQ
 have hU0 : Still 29 #[.string NM, .int .u8 117] (.bool false) := hh 117 _ eU
 have hB0 : Still 29 #[.string NM, .int .u8 98] (.bool false) := hh 98 _ eB
 have hD0 : Still 29 #[.string NM, .int .u8 100] (.bool false) := hh 100 _ eD
 unfold off4 offE offC offP offQ offU offB offD nz off8 off10 last12 at hR
 have hPu := hs.P.1
 have hOu := hs.ok
 clear hs
 obtain ⟨K, E, C, P, A, N, cK, cE, cC, cP, U, B⟩ := o
 dsimp only at *
 simp only [← bL_def, eE, eC, eP, eQ, eU, eB, eD] at hR
 unfold opv
 unfold opc at hb1 hbox
 dsimp only at hb1 hbox ⊢
 have hP1 := Hd hi1
 have hP2 := Hd hi2
 clear hi1 hi2 hNM hh eE eC eP eQ eU eB eD
 obtain ⟨W, hW⟩ : ∃ W, w.alloc (.cells #[.int .i64 K, .int .u64 E, .int .i64 C, .slice a P.length c, .int .u32 A, .int .u32 N, .int .i64 cK, .int .u64 cE, .int .i64 cC, .slice b cP.length d, .int .i64 U, .string B] 38) = W := ⟨_, rfl⟩
 rw [hW] at hb1 hbox
 obtain ⟨x0, x1, x2, x3, x4, x5, x6, x7, x8, x9, x10, x11⟩ := cells12 hbox
 replace hb1 := Hd hb1
 replace hbox := Hd hbox
 replace hR := Hd hR
 replace hPu := Hd hPu
 replace hOu := Hd hOu
 replace hep := Hd hep
 replace hE0 := Hd hE0
 replace hC0 := Hd hC0
 replace hP0 := Hd hP0
 replace hQ0 := Hd hQ0
 replace hU0 := Hd hU0
 replace hB0 := Hd hB0
 replace hD0 := Hd hD0
 have hE := Hd (stq hE0.out W)
 have hC := Hd (stq hC0.out W)
 have hP := Hd (stq hP0.out W)
 have hQ := Hd (stq hQ0.out W)
 have hU := Hd (stq hU0.out W)
 have hB := Hd (stq hB0.out W)
 have k1 : decide (K < 1) = false := decide_eq_false (by omega)
 have k2 : decide (11 < K) = false := decide_eq_false (by omega)
 go_enter Tryz.func10, Tryz.ntmps10
 go_wp2_with fail
 replace hW := Hd hW
 refine (cN.on _).mono ?_
 rintro e w' ⟨rfl, rfl⟩
 clear cN
 go_upto_region 4 with fail
 clear k1 k2
 rcases alt (nzI C) (alt (nzI A) (alt (nzI N) (alt (nzI U) ((nzB B).symm)))) with yC | ⟨rfl, yA | ⟨rfl, yN | ⟨rfl, yU | ⟨rfl, ⟨yB, yB2⟩ | rfl⟩⟩⟩⟩
 rotate_right
 ·refine wp_region_quietF ?_
  (try simp only [List.append_eq, List.cons_append, List.nil_append])
  repeat (go_big_quiet_step (first | with_reducible exact Qs (hE.out _) | with_reducible exact Qs (hC.out _) | with_reducible exact Qs (hP.out _) | with_reducible exact Qs (hQ.out _) | with_reducible exact Qs (hU.out _) | with_reducible exact Qs (hB.out _)))
  refine wpQuiet_nil ?_
  intro _ hw2
  obtain ⟨nq, hw3⟩ := hw2
  subst hw3
  obtain ⟨W2, hW2⟩ : ∃ W2, W.drewN nq = W2 := ⟨_, rfl⟩
  rw [hW2]
  have hb2 := Hd (show Below w.heap.size w W2 by rw [← hW2]; exact below_drewN hb1.out)
  have hbox2 := hbox.out
  replace hbox2 : IsC (W.drewN nq) _ _ _ := hbox2
  rw [hW2] at hbox2
  clear x0 x1 x2 x3 x4 x5 x6 x7 x8 x9 x10 x11 hE hC hP hQ hU hB
  obtain ⟨x0, x1, x2, x3, x4, x5, x6, x7, x8, x9, x10, x11⟩ := cells12 hbox2
  replace hbox2 := Hd hbox2
  replace hW2 := Hd hW2
  have hD := Hd (stq hD0.out W2)
  go_upto_region 6 with fail
  rcases alt (nzI cK) (alt (nzI cE) (alt (nzI cC) ((nzL cP).symm))) with ycK | ⟨rfl, ycE | ⟨rfl, ycC | ⟨rfl, ⟨ycP, ycP2⟩ | rfl⟩⟩⟩
  rotate_right
  ·refine wp_region_quietF ?_
   (try simp only [List.append_eq, List.cons_append, List.nil_append])
   repeat (go_big_quiet_step (first | with_reducible exact Qs (hD.out _)))
   refine wpQuiet_nil ?_
   intro _ hw2
   obtain ⟨nq, hw3⟩ := hw2
   subst hw3
   obtain ⟨W3, hW3⟩ : ∃ W3, W2.drewN nq = W3 := ⟨_, rfl⟩
   rw [hW3]
   have hb3 := Hd (show Below w.heap.size w W3 by rw [← hW3]; exact below_drewN hb2.out)
   have hbox3 := hbox2.out
   replace hbox3 : IsC (W2.drewN nq) _ _ _ := hbox3
   rw [hW3] at hbox3
   clear x0 x1 x2 x3 x4 x5 x6 x7 x8 x9 x10 x11 hD
   obtain ⟨x0, x1, x2, x3, x4, x5, x6, x7, x8, x9, x10, x11⟩ := cells12 hbox3
   replace hbox3 := Hd hbox3
   replace hW3 := Hd hW3
   have hb3s := hb3.out.size
   have cP3 := Hd (rparts_c P (by have := hPu.out; simp only [List.length_nil] at *; omega) _ W3 (hP1.out.below hb3.out))
   go_wp2_with fail
   refine (hE0.out _).mono ?_
   rintro e w' ⟨rfl, rfl⟩
   have hE1 := hOu.out.E
   unfold u64 at hE1
   have cEnt := refEnt_c E hE1.1 (by dsimp only at hE1; omega)
   have hent : (decide (0 < E % 4294967296) && decide (0 < E / 4294967296)) = isEntF E := by
    unfold isEntF idF genF
    congr 1 <;> (congr 1; exact propext (by constructor <;> intro h <;> omega))
   rw [hent] at cEnt
   replace cEnt := Hd cEnt
   clear hent hE1
   go_wp2_with fail
   refine (cEnt.out.on _).mono ?_
   rintro e w' ⟨rfl, rfl⟩
   cases hen : isEntF E with
   | false =>
     go_wp2_with fail
     go_ret
     exact ⟨by rw [← hR.out]; simp [ba0e, ba0s, hen], hb3.out⟩
   | true =>
     go_wp2_with fail
     refine cP3.out.mono ?_
     rintro e w4 ⟨rfl, hb4⟩
     have hbox4 := Hd (isC_of hb4 hbox3.out)
     have hb5 := Hd (below_up hb3.out hb3s hb4)
     clear hb4 cP3 x0 x1 x2 x3 x4 x5 x6 x7 x8 x9 x10 x11
     obtain ⟨x0, x1, x2, x3, x4, x5, x6, x7, x8, x9, x10, x11⟩ := cells12 hbox4.out
     cases hpp : isPartsF P with
     | false =>
       go_wp2_with fail
       go_ret
       exact ⟨by rw [← hR.out]; simp [ba0e, ba0s, hpp], hb5.out⟩
     | true =>
       rcases hep.out with rfl | rfl
       all_goals
        by_cases ql : P.length = 1
        ·have pl : ((P.length : Int) != 1) = false := by rw [ql]; rfl
         go_wp2_with fail
         refine (hQ0.out _).mono ?_
         rintro e w' ⟨rfl, rfl⟩
         go_wp2_with fail
         refine (hD0.out _).mono ?_
         rintro e w' ⟨rfl, rfl⟩
         go_wp2_with fail
         go_ret
         exact ⟨by rw [← hR.out]; simp [ba0e, ba0s, hpp, hen, ql], hb5.out⟩
        ·have pl : ((P.length : Int) != 1) = true := bne_iff_ne.2 (by omega)
         go_wp2_with fail
         go_ret
         exact ⟨by rw [← hR.out]; simp [ba0e, ba0s, ql], hb5.out⟩
  all_goals
   refine wp_region_quietF ?_
   (try simp only [List.append_eq, List.cons_append, List.nil_append])
   repeat (go_big_quiet_step (first | with_reducible exact Qs (hD.out _)))
   refine wpQuiet_nil ?_
   intro _ hw2
   obtain ⟨nq, hw3⟩ := hw2
   subst hw3
   clear x0 x1 x2 x3 x4 x5 x6 x7 x8 x9 x10 x11
   go_wp2_with fail
   go_ret
   exact ⟨by rw [← hR.out]; simp [ba0e, ba0s, *], below_drewN hb2.out⟩
 all_goals
  refine wp_region_quietF ?_
  (try simp only [List.append_eq, List.cons_append, List.nil_append])
  repeat (go_big_quiet_step (first | with_reducible exact Qs (hE.out _) | with_reducible exact Qs (hC.out _) | with_reducible exact Qs (hP.out _) | with_reducible exact Qs (hQ.out _) | with_reducible exact Qs (hU.out _) | with_reducible exact Qs (hB.out _)))
  refine wpQuiet_nil ?_
  intro _ hw2
  obtain ⟨nq, hw3⟩ := hw2
  subst hw3
  clear x0 x1 x2 x3 x4 x5 x6 x7 x8 x9 x10 x11
  go_wp2_with fail
  go_ret
  exact ⟨by rw [← hR.out]; simp [ba0e, ba0s, *], below_drewN hb1.out⟩
end Go.Proofs.YtjjgbillihedgaaGreatDoor
