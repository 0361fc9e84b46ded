/- parts of the proof, merged: TlLn -/
import Derived.Test.YtjjgbillihedgaaGreatDoorQy32
import Derived.Test.YtjjgbillihedgaaGreatDoorQy36
set_option linter.unusedSimpArgs false
set_option linter.unusedVariables false
set_option maxHeartbeats 64000000
set_option maxRecDepth 100000
namespace Go.Proofs.YtjjgbillihedgaaGreatDoor
open Go.RowKit
open Rf
open Sg
open Wide
open Tl
theorem words_at (W : World) (k : Nat) (hk : k < 12) : (W.alloc (.cells #[.string ⟨#[]⟩, .string ⟨#[115, 112, 97, 119, 110]⟩, .string ⟨#[100, 101, 115, 112, 97, 119, 110]⟩, .string ⟨#[97, 100, 100]⟩, .string ⟨#[114, 101, 109, 111, 118, 101]⟩, .string ⟨#[115, 101, 116]⟩, .string ⟨#[103, 101, 116]⟩, .string ⟨#[113, 117, 101, 114, 121]⟩, .string ⟨#[100, 101, 102, 101, 114]⟩, .string ⟨#[102, 114, 97, 109, 101]⟩, .string ⟨#[98, 101, 103, 105, 110]⟩, .string ⟨#[97, 98, 111, 114, 116]⟩] 79)).cell? ⟨W.heap.size, k, none⟩ = some (.string (text (wordB (k : Int)))) := by
 rw [(IsC.new W 79 #[.string ⟨#[]⟩, .string ⟨#[115, 112, 97, 119, 110]⟩, .string ⟨#[100, 101, 115, 112, 97, 119, 110]⟩, .string ⟨#[97, 100, 100]⟩, .string ⟨#[114, 101, 109, 111, 118, 101]⟩, .string ⟨#[115, 101, 116]⟩, .string ⟨#[103, 101, 116]⟩, .string ⟨#[113, 117, 101, 114, 121]⟩, .string ⟨#[100, 101, 102, 101, 114]⟩, .string ⟨#[102, 114, 97, 109, 101]⟩, .string ⟨#[98, 101, 103, 105, 110]⟩, .string ⟨#[97, 98, 111, 114, 116]⟩]).cell]
 match k, hk with
 | 0, _ => rfl
 | 1, _ => rfl
 | 2, _ => rfl
 | 3, _ => rfl
 | 4, _ => rfl
 | 5, _ => rfl
 | 6, _ => rfl
 | 7, _ => rfl
 | 8, _ => rfl
 | 9, _ => rfl
 | 10, _ => rfl
 | 11, _ => rfl
theorem rlineG (o : OpD) (hs : OpSmall o) (s t : Value) (w : World) (hin : OpIn w o s t)
 (hI : ∀ w', OpIn w' o s t → Calls Tryz.prog 10 #[opv o s t] w' fun e w2 => e = .returned (.bool (isOpF o)) ∧ Below w'.heap.size w' w2)
 (hrec : o.K = 8 → isCmd o.cK = true → ∀ (w' : World) (s' : Value), InS w' s' o.cP → Calls Tryz.prog 12 #[opv (asOpF o.cK o.cE o.cC o.cP) s' (.slice none 0 0)] w' fun e w2 => e = .returned (.string (text (line1F (asOpF o.cK o.cE o.cC o.cP)))) ∧ Below w'.heap.size w' w2) :
 Calls Tryz.prog 12 #[opv o s t] w fun e w' => e = .returned (.string (text (lineF o))) ∧ Below w.heap.size w w' := by
 obtain ⟨hi1, hi2⟩ := id hin
 obtain ⟨a, c, rfl, _⟩ := id hi1
 obtain ⟨b, d, rfl, _⟩ := id hi2
 have hb1 := below1 w (.cells (opc o (.slice a o.P.length c) (.slice b o.cP.length d)) 38)
 have hbox := IsC.new w 38 (opc o (.slice a o.P.length c) (.slice b o.cP.length d))
 have cI := hI (w.alloc (.cells (opc o (.slice a o.P.length c) (.slice b o.cP.length d)) 38)) (hin.below hb1)
 obtain ⟨R, hR⟩ : ∃ R, lineF o = R := ⟨_, rfl⟩
 rw [hR]
 have hle := line_le o hs.ok
 have ok := hs.ok
 cases hf : isOpF o with
 | false =>
   obtain rfl : R = [] := by
    rw [← hR]
    unfold lineF
    rw [hf]
    rfl
   rw [hf] at cI
   clear hR hrec hI hf hle ok hs
   obtain ⟨K, E, C, P, A, N, cK, cE, cC, cP, U, B⟩ := o
   unfold opv at cI ⊢
   unfold opc at hb1 hbox cI
   dsimp only at *
   obtain ⟨x0, x1, x2, x3, x4, x5, x6, x7, x8, x9, x10, x11⟩ := cells12 hbox
   replace cI := Hd cI
   replace hb1 := Hd hb1
   replace hbox := Hd hbox
   go_enter Tryz.func12, Tryz.ntmps12
   go_wp2_with fail
   refine cI.out.mono ?_
   rintro e w2 ⟨rfl, hb2⟩
   have hfin := Hd (below_up hb1.out hb1.out.size hb2)
   clear hb2 cI x0 x1 x2 x3 x4 x5 x6 x7 x8 x9 x10 x11
   go_wp2_with fail
   go_ret
   exact ⟨rfl, hfin.out⟩
 | true =>
   have hk := isOp_kind hf
   have hlp := line_parts o ok hf
   rw [hR] at hlp
   obtain ⟨hpp, hNeg⟩ := line_facts o hf
   have hpos := parts_pos hpp
   rw [hR] at hle
   rw [hf] at cI
   obtain ⟨NM, hNM⟩ : ∃ x, text (namesF o.K) = x := ⟨_, rfl⟩
   have cN := names_c o.K
   rw [hNM] at cN
   have hh : ∀ (x : UInt8) (b : Bool), bL o.K x = b → Still 29 #[.string NM, .int .u8 (x.toNat : Int)] (.bool b) := has_let o.K NM hNM
   obtain ⟨S0, hS0⟩ : ∃ x, wordB o.K = x := ⟨_, rfl⟩
   obtain ⟨lE0, hlE⟩ : ∃ x, lE o = x := ⟨_, rfl⟩
   obtain ⟨lC0, hlC⟩ : ∃ x, lC o = x := ⟨_, rfl⟩
   obtain ⟨lQ0, hlQ⟩ : ∃ x, lQ o = x := ⟨_, rfl⟩
   obtain ⟨lD0, hlD⟩ : ∃ x, lD o = x := ⟨_, rfl⟩
   obtain ⟨lU0, hlU⟩ : ∃ x, lU o = x := ⟨_, rfl⟩
   obtain ⟨lB0, hlB⟩ : ∃ x, lB o = x := ⟨_, rfl⟩
   rw [hS0, hlE, hlC, hlQ, hlD, hlU, hlB] at hlp
   unfold lE at hlE
   unfold lC at hlC
   unfold lQ at hlQ
   unfold lD at hlD
   unfold lU at hlU
   unfold lB at hlB
   obtain ⟨bE, eE⟩ : ∃ x, bL o.K 101 = x := ⟨_, rfl⟩
   have hE0 : Still 29 #[.string NM, .int .u8 101] (.bool bE) := hh 101 _ eE
   obtain ⟨bC, eC⟩ : ∃ x, bL o.K 99 = x := ⟨_, rfl⟩
   have hC0 : Still 29 #[.string NM, .int .u8 99] (.bool bC) := hh 99 _ eC
   obtain ⟨bQ, eQ⟩ : ∃ x, bL o.K 113 = x := ⟨_, rfl⟩
   have hQ0 : Still 29 #[.string NM, .int .u8 113] (.bool bQ) := hh 113 _ eQ
   obtain ⟨bD, eD⟩ : ∃ x, bL o.K 100 = x := ⟨_, rfl⟩
   have hD0 : Still 29 #[.string NM, .int .u8 100] (.bool bD) := hh 100 _ eD
   obtain ⟨bU, eU⟩ : ∃ x, bL o.K 117 = x := ⟨_, rfl⟩
   have hU0 : Still 29 #[.string NM, .int .u8 117] (.bool bU) := hh 117 _ eU
   obtain ⟨bB, eB⟩ : ∃ x, bL o.K 98 = x := ⟨_, rfl⟩
   have hB0 : Still 29 #[.string NM, .int .u8 98] (.bool bB) := hh 98 _ eB
   rw [eE] at hlE
   rw [eC] at hlC
   rw [eQ] at hlQ
   rw [eD] at hlD
   rw [eU] at hlU
   rw [eB] at hlB
   rw [eC, eU, eD] at hNeg
   clear hh eE eC eQ eD eU eB hNM hR hf hpp
   have hAu := ok.A
   have hNu := ok.N
   have hEu := ok.E
   have hCu := ok.C
   have hUu := ok.U
   unfold i64 at hCu hUu
   have hPo := ok.P
   have hPl := hs.P
   have hBs := hs.B
   unfold u32 at hAu hNu
   unfold u64 at hEu
   clear hs ok hI hin
   obtain ⟨K, E, C, P, A, N, cK, cE, cC, cP, U, B⟩ := o
   obtain ⟨k, hkk⟩ := Int.eq_ofNat_of_zero_le (show 0 ≤ K by have := hk.1; dsimp only at this; omega)
   (try dsimp only at hkk)
   subst hkk
   unfold opv at cI ⊢
   unfold opc at hb1 hbox cI
   dsimp only at *
   have hk12 : k < 12 := by omega
   have hk12I : (k : Int) < 12 := by omega
   have hwd := fun W => words_at W k hk12
   rw [hS0] at hwd
   obtain ⟨x0, x1, x2, x3, x4, x5, x6, x7, x8, x9, x10, x11⟩ := cells12 hbox
   replace hCu := Hd hCu
   replace hUu := Hd hUu
   replace cI := Hd cI
   replace hb1 := Hd hb1
   replace hbox := Hd hbox
   replace hS0 := Hd hS0
   replace hlE := Hd hlE
   replace hlC := Hd hlC
   replace hlQ := Hd hlQ
   replace hlD := Hd hlD
   replace hlU := Hd hlU
   replace hlB := Hd hlB
   replace hNeg := Hd hNeg
   replace hAu := Hd hAu
   replace hNu := Hd hNu
   replace hEu := Hd hEu
   replace hPo := Hd hPo
   replace hPl := Hd hPl
   replace hBs := Hd hBs
   replace hrec := Hd hrec
   replace hi1 := Hd hi1
   replace hi2 := Hd hi2
   replace hlp := Hd hlp
   replace hle := Hd hle
   replace hpos := Hd hpos
   replace hwd := Hd hwd
   replace hk := Hd hk
   replace hE0 := Hd hE0
   replace hC0 := Hd hC0
   replace hQ0 := Hd hQ0
   replace hD0 := Hd hD0
   replace hU0 := Hd hU0
   replace hB0 := Hd hB0
   have hlen := congrArg List.length hlp.out
   simp only [List.length_append] at hlen
   have hle0 := hle.out
   obtain ⟨T0, hT0⟩ : ∃ x, text S0 = x := ⟨_, rfl⟩
   rw [hT0] at hwd
   have z0 : T0.size ≤ 99500 := by rw [← hT0, text_size]; omega
   obtain ⟨T1, hT1⟩ : ∃ x, text (S0 ++ lE0) = x := ⟨_, rfl⟩
   have z1 : T1.size ≤ 99500 := by rw [← hT1, text_size]; simp only [List.length_append]; omega
   obtain ⟨T2, hT2⟩ : ∃ x, text (S0 ++ lE0 ++ lP P) = x := ⟨_, rfl⟩
   have z2 : T2.size ≤ 99500 := by rw [← hT2, text_size]; simp only [List.length_append]; omega
   obtain ⟨T3, hT3⟩ : ∃ x, text (S0 ++ lE0 ++ lP P ++ lC0) = x := ⟨_, rfl⟩
   have z3 : T3.size ≤ 99500 := by rw [← hT3, text_size]; simp only [List.length_append]; omega
   obtain ⟨T4, hT4⟩ : ∃ x, text (S0 ++ lE0 ++ lP P ++ lC0 ++ lQ0) = x := ⟨_, rfl⟩
   have z4 : T4.size ≤ 99500 := by rw [← hT4, text_size]; simp only [List.length_append]; omega
   obtain ⟨T5, hT5⟩ : ∃ x, text (S0 ++ lE0 ++ lP P ++ lC0 ++ lQ0 ++ lD0) = x := ⟨_, rfl⟩
   have z5 : T5.size ≤ 99500 := by rw [← hT5, text_size]; simp only [List.length_append]; omega
   obtain ⟨T6, hT6⟩ : ∃ x, text (S0 ++ lE0 ++ lP P ++ lC0 ++ lQ0 ++ lD0 ++ lU0) = x := ⟨_, rfl⟩
   have z6 : T6.size ≤ 99500 := by rw [← hT6, text_size]; simp only [List.length_append]; omega
   obtain ⟨T7, hT7⟩ : ∃ x, text (S0 ++ lE0 ++ lP P ++ lC0 ++ lQ0 ++ lD0 ++ lU0 ++ lB0) = x := ⟨_, rfl⟩
   have z7 : T7.size ≤ 99500 := by rw [← hT7, text_size]; simp only [List.length_append]; omega
   have zl : lE0.length ≤ 99500 ∧ (lP P).length ≤ 99500 ∧ lC0.length ≤ 99500 ∧ lQ0.length ≤ 99500 ∧ lD0.length ≤ 99500 ∧ lU0.length ≤ 99500 ∧ lB0.length ≤ 99500 := by omega
   have hTR : T7 = text R := by rw [← hT7, hlp.out]
   clear hlen hle0
   replace hT0 := Hd hT0
   replace hT1 := Hd hT1
   replace hT2 := Hd hT2
   replace hT3 := Hd hT3
   replace hT4 := Hd hT4
   replace hT5 := Hd hT5
   replace hT6 := Hd hT6
   replace hT7 := Hd hT7
   replace z0 := Hd z0
   replace z1 := Hd z1
   replace z2 := Hd z2
   replace z3 := Hd z3
   replace z4 := Hd z4
   replace z5 := Hd z5
   replace z6 := Hd z6
   replace z7 := Hd z7
   replace zl := Hd zl
   replace hTR := Hd hTR
   go_enter Tryz.func12, Tryz.ntmps12
   go_wp2_with fail
   refine cI.out.mono ?_
   rintro e w2 ⟨rfl, hb2⟩
   have hboxA := Hd ((isC_of hb2 hbox.out).alloc (.cells #[.string ⟨#[]⟩, .string ⟨#[115, 112, 97, 119, 110]⟩, .string ⟨#[100, 101, 115, 112, 97, 119, 110]⟩, .string ⟨#[97, 100, 100]⟩, .string ⟨#[114, 101, 109, 111, 118, 101]⟩, .string ⟨#[115, 101, 116]⟩, .string ⟨#[103, 101, 116]⟩, .string ⟨#[113, 117, 101, 114, 121]⟩, .string ⟨#[100, 101, 102, 101, 114]⟩, .string ⟨#[102, 114, 97, 109, 101]⟩, .string ⟨#[98, 101, 103, 105, 110]⟩, .string ⟨#[97, 98, 111, 114, 116]⟩] 79))
   have hbA := Hd ((below_up hb1.out hb1.out.size hb2).alloc (Nat.le_trans hb1.out.size hb2.size) (.cells #[.string ⟨#[]⟩, .string ⟨#[115, 112, 97, 119, 110]⟩, .string ⟨#[100, 101, 115, 112, 97, 119, 110]⟩, .string ⟨#[97, 100, 100]⟩, .string ⟨#[114, 101, 109, 111, 118, 101]⟩, .string ⟨#[115, 101, 116]⟩, .string ⟨#[103, 101, 116]⟩, .string ⟨#[113, 117, 101, 114, 121]⟩, .string ⟨#[100, 101, 102, 101, 114]⟩, .string ⟨#[102, 114, 97, 109, 101]⟩, .string ⟨#[98, 101, 103, 105, 110]⟩, .string ⟨#[97, 98, 111, 114, 116]⟩] 79))
   have y0 := hwd.out w2
   clear hb2 cI x0 x1 x2 x3 x4 x5 x6 x7 x8 x9 x10 x11
   obtain ⟨W, hW⟩ : ∃ W, w2.alloc (.cells #[.string ⟨#[]⟩, .string ⟨#[115, 112, 97, 119, 110]⟩, .string ⟨#[100, 101, 115, 112, 97, 119, 110]⟩, .string ⟨#[97, 100, 100]⟩, .string ⟨#[114, 101, 109, 111, 118, 101]⟩, .string ⟨#[115, 101, 116]⟩, .string ⟨#[103, 101, 116]⟩, .string ⟨#[113, 117, 101, 114, 121]⟩, .string ⟨#[100, 101, 102, 101, 114]⟩, .string ⟨#[102, 114, 97, 109, 101]⟩, .string ⟨#[98, 101, 103, 105, 110]⟩, .string ⟨#[97, 98, 111, 114, 116]⟩] 79) = W := ⟨_, rfl⟩
   rw [hW] at hboxA hbA y0
   have hbAs := hbA.out.size
   obtain ⟨x0, x1, x2, x3, x4, x5, x6, x7, x8, x9, x10, x11⟩ := cells12 hboxA.out
   replace hW := Hd hW
   go_upto_region 4 with fail
   rw [hW.out]
   go_wp2_with fail
   refine (cN.on _).mono ?_
   rintro e w' ⟨rfl, rfl⟩
   clear y0 cN
   go_wp2_with fail
   refine (hE0.out _).mono ?_
   rintro e w' ⟨rfl, rfl⟩
   go_upto_if 19 with fail
   go_cut [4] (fun s4 wx => s4 = .string T1 ∧ Below w.heap.size w wx ∧ IsC wx w.heap.size 38 #[.int .i64 (k : Int), .int .u64 E, .int .i64 C, .slice a P.length c, .int .u32 A, .int .u32 N, .int .i64 cK, .int .u64 cE, .int .i64 cC, .slice b cP.length d, .int .i64 U, .string B])
   case first =>
    cases bE with
    | false =>
      obtain rfl : lE0 = [] := hlE.out.symm
      go_wp2_with fail
      go_meet
      exact ⟨by rw [← hT1.out, ← hT0.out, List.append_nil], hbA.out, hboxA.out⟩
    | true =>
      have hx : 32 :: (digs (E % 4294967296).toNat ++ 32 :: digs (E / 4294967296).toNat) = lE0 := hlE.out
      have hq := congrArg List.length hx
      simp only [List.length_append, List.length_cons] at hq
      have h1 := hEu.out
      have h2 := zl.out.1
      have h3 := z0.out
      have cA := digits_c (E % 4294967296).toNat (by omega)
      rw [show (((E % 4294967296).toNat : Nat) : Int) = E % 4294967296 by omega] at cA
      have cB := digits_c (E / 4294967296).toNat (by omega)
      rw [show (((E / 4294967296).toNat : Nat) : Int) = E / 4294967296 by omega] at cB
      obtain ⟨D1, hD1⟩ : ∃ x, text (digs (E % 4294967296).toNat) = x := ⟨_, rfl⟩
      have sD1 : D1.size = (digs (E % 4294967296).toNat).length := by rw [← hD1, text_size]
      obtain ⟨D2, hD2⟩ : ∃ x, text (digs (E / 4294967296).toNat) = x := ⟨_, rfl⟩
      have sD2 : D2.size = (digs (E / 4294967296).toNat).length := by rw [← hD2, text_size]
      rw [hD1] at cA
      rw [hD2] at cB
      have f0 : ¬ 9223372036854775807 < T0.size + 1 := by omega
      have f1 : ¬ 9223372036854775807 < T0.size + 1 + D1.size := by omega
      have f2 : ¬ 9223372036854775807 < T0.size + 1 + D1.size + 1 := by omega
      have f3 : ¬ 9223372036854775807 < T0.size + 1 + D1.size + 1 + D2.size := by omega
      have g1 : IntKind.i64.wrap (E % 4294967296) = E % 4294967296 := Go.IntWalk.i64_in _ ⟨by omega, by omega⟩
      have g2 : IntKind.i64.wrap (E / 4294967296) = E / 4294967296 := Go.IntWalk.i64_in _ ⟨by omega, by omega⟩
      have g3 : E.tmod 4294967296 = E % 4294967296 := Int.tmod_eq_emod_of_nonneg (by omega)
      have g4 : E.tdiv 4294967296 = E / 4294967296 := Int.tdiv_eq_ediv_of_nonneg (by omega)
      have g5 : IntKind.u64.wrap (E % 4294967296) = E % 4294967296 := Go.IntWalk.u64_in _ ⟨by omega, by omega⟩
      have g6 : IntKind.u64.wrap (E / 4294967296) = E / 4294967296 := Go.IntWalk.u64_in _ ⟨by omega, by omega⟩
      have hfn : T0 ++ ⟨#[32]⟩ ++ D1 ++ ⟨#[32]⟩ ++ D2 = T1 := by
       rw [← hT1.out, ← hT0.out, ← hx, txt_cons, txt_app, ← hD1, ← hD2]
      replace cA := Hd cA
      replace cB := Hd cB
      replace hfn := Hd hfn
      clear hq h1 h2 h3 hx hD1 hD2 sD1 sD2
      go_upto_region 7 with fail
      go_region_held3 (fun w1 => w1.cell? ⟨w.heap.size, 1, none⟩ = some (.int .u64 E)) (go_keep)
       (first
         |(go_at_call 37
           with_reducible refine Calls.mono (cA.out.on _) ?_
           rintro e w4 ⟨rfl, hb4⟩
           have hbB := Hd (below_up hbA.out hbAs (by first | exact below_d hb4 | exact hb4))
           have hboxB := Hd (isC_of (by first | exact below_d hb4 | exact hb4) hboxA.out)
           have hbBs := hbB.out.size
           have y1 := hboxB.out.cell 1
           clear hb4 x1)
         |(go_at_call 37
           with_reducible refine Calls.mono (cB.out.on _) ?_
           rintro e w5 ⟨rfl, hb5⟩
           have hbC := Hd (below_up hbB.out hbBs (by first | exact hb5 | exact below_d hb5))
           have hboxC := Hd (isC_of (by first | exact hb5 | exact below_d hb5) hboxB.out)
           have y2 := hboxC.out.cell 1
           clear hb5 y1))
      all_goals
       clear f0 f1 f2 f3 g1 g2 g3 g4 g5 g6 x0 x2 x3 x4 x5 x6 x7 x8 x9 x10 x11
       go_wp2_with fail
       go_meet
       exact ⟨by rw [← hfn.out], hbC.out, hboxC.out⟩
   case rest =>
    obtain ⟨rfl, hbN, hboxN⟩ := hcut
    replace hbA := Hd hbN
    have hboxA := Hd hboxN
    have hbAs := hbA.out.size
    clear hbN hboxN x0 x1 x2 x3 x4 x5 x6 x7 x8 x9 x10 x11
    obtain ⟨x0, x1, x2, x3, x4, x5, x6, x7, x8, x9, x10, x11⟩ := cells12 hboxA.out
    go_wp2_with fail
    go_loopw [4, 6] (fun s4 i wx => ∃ j : Nat, j ≤ P.length ∧ i = .int .i64 j ∧ s4 = .string (text (S0 ++ lE0 ++ lP (P.take j))) ∧ Below w.heap.size w wx ∧ IsC wx w.heap.size 38 #[.int .i64 (k : Int), .int .u64 E, .int .i64 C, .slice a P.length c, .int .u32 A, .int .u32 N, .int .i64 cK, .int .u64 cE, .int .i64 cC, .slice b cP.length d, .int .i64 U, .string B]) (fun _ i _ => P.length - (intOf i).toNat)
    case atStart => exact ⟨0, Nat.zero_le _, rfl, by rw [← hT1.out]; simp [lP], hbA.out, hboxA.out⟩
    case round =>
     clear hbA hboxA hbAs x0 x1 x2 x3 x4 x5 x6 x7 x8 x9 x10 x11
     obtain ⟨j, hj, rfl, rfl, hbA, hboxA⟩ := hrel
     have hbAs := hbA.size
     have x3 := hboxA.cell 3
     have hPb : P.length ≤ 1000000 := hPl.out.1
     by_cases hlt : j < P.length
     ·have hltI : (j : Int) < (P.length : Int) := by omega
      have hst : P.take (j + 1) = P.take j ++ [P[j]] := List.take_succ_eq_append_getElem hlt
      have hin0 := hi1.out.below hbA
      obtain ⟨g, o, ts, e, hgz, q0, q1, hv⟩ := hin0.at j hlt
      obtain rfl := e
      obtain ⟨va, vc, rfl, _⟩ := id hv
      have hc := hpos.out P[j] (List.getElem_mem hlt)
      have hpo := (hPo.out P[j] (List.getElem_mem hlt))
      have hlp1 : (lP (P.take (j + 1))).length ≤ (lP P).length := by
       conv => rhs; rw [← List.take_append_drop (j + 1) P]
       unfold lP
       rw [List.flatMap_append, List.length_append]
       omega
      have hsum : (S0 ++ lE0 ++ lP P).length ≤ 99500 := by have := z2.out; rw [← hT2.out, text_size] at this; exact this
      have e1 : lP (P.take (j + 1)) = lP (P.take j) ++ (32 :: (digs P[j].C.toNat ++ 61 :: valF P[j].V)) := by
       rw [hst]; unfold lP; rw [List.flatMap_append]; simp
      have hVl := hPl.out.2 P[j] (List.getElem_mem hlt)
      obtain ⟨p, hp⟩ : ∃ p, P[j] = p := ⟨_, rfl⟩
      rw [hp] at hc hpo e1 q0 q1 hv hVl
      obtain ⟨Cp, V⟩ := p
      dsimp only at *
      have hq := congrArg List.length e1
      simp only [List.length_append, List.length_cons] at hq hsum
      have cA := digits_c Cp.toNat (by omega)
      rw [show ((Cp.toNat : Nat) : Int) = Cp by omega] at cA
      have cB := fun w' (h : InV w' (.slice va V.length vc) V) => valueR_c V (by omega) hpo.2.2 _ w' h
      have hnew : text (S0 ++ lE0 ++ lP (P.take (j + 1))) = text (S0 ++ lE0 ++ lP (P.take j)) ++ ⟨#[32]⟩ ++ text (digs Cp.toNat) ++ ⟨#[61]⟩ ++ text (valF V) := by
       rw [e1, ← List.append_assoc, txt_cons, ← txt_app61]
      obtain ⟨TJ, hTJ⟩ : ∃ x, text (S0 ++ lE0 ++ lP (P.take j)) = x := ⟨_, rfl⟩
      rw [hTJ] at hnew ⊢
      have sTJ : TJ.size = S0.length + lE0.length + (lP (P.take j)).length := by rw [← hTJ, text_size]; simp; omega
      obtain ⟨D1, hD1⟩ : ∃ x, text (digs Cp.toNat) = x := ⟨_, rfl⟩
      have sD1 : D1.size = (digs Cp.toNat).length := by rw [← hD1, text_size]
      obtain ⟨D2, hD2⟩ : ∃ x, text (valF V) = x := ⟨_, rfl⟩
      have sD2 : D2.size = (valF V).length := by rw [← hD2, text_size]
      rw [hD1] at cA
      rw [hD1, hD2] at hnew
      simp only [hD2] at cB
      have f0 : ¬ 9223372036854775807 < TJ.size + 1 := by omega
      have f1 : ¬ 9223372036854775807 < TJ.size + 1 + D1.size := by omega
      have f2 : ¬ 9223372036854775807 < TJ.size + 1 + D1.size + 1 := by omega
      have f3 : ¬ 9223372036854775807 < TJ.size + 1 + D1.size + 1 + D2.size := by omega
      replace cA := Hd cA
      replace cB := Hd cB
      replace hnew := Hd hnew
      replace hv := Hd hv
      replace hbA := Hd hbA
      replace hboxA := Hd hboxA
      have hj1 := Hd (show j + 1 ≤ P.length from hlt)
      clear hp hst hin0 hc hpo hlp1 hsum e1 hVl hq hTJ sTJ hD1 hD2 sD1 sD2
      go_wp2_with fail
      go_region_held3 (fun w1 => w1.cell? ⟨w.heap.size, 3, none⟩ = some (.slice (some ⟨g, o, none⟩) P.length c) ∧ w1.cell? ⟨g, o + j * 2, none⟩ = some (.int .i64 Cp) ∧ w1.cell? ⟨g, o + j * 2 + 1, none⟩ = some (.slice va V.length vc)) (go_keep)
       (first
         |(go_at_call 37
           with_reducible refine Calls.mono (cA.out.on _) ?_
           rintro e w4 ⟨rfl, hb4⟩
           have hbB := Hd (below_up hbA.out hbAs (by first | exact below_d hb4 | exact hb4))
           have hboxB := Hd (isC_of (by first | exact below_d hb4 | exact hb4) hboxA.out)
           have hbBs := hbB.out.size
           have y3 := cell_up x3 (by first | exact below_d hb4 | exact hb4)
           have y0 := cell_up q0 (by first | exact below_d hb4 | exact hb4)
           have y1 := cell_up q1 (by first | exact below_d hb4 | exact hb4)
           have hv4 := Hd (hv.out.below (by first | exact below_d hb4 | exact hb4))
           clear hb4 x3 q0 q1)
         |(go_at_call 38
           refine Calls.mono (cB.out _ hv4.out) ?_
           rintro e w5 ⟨rfl, hb5⟩
           have hbC := Hd (below_up hbB.out hbBs (by first | exact hb5 | exact below_d hb5))
           have hboxC := Hd (isC_of (by first | exact hb5 | exact below_d hb5) hboxB.out)
           have t3 := cell_up y3 (by first | exact hb5 | exact below_d hb5)
           have t0 := cell_up y0 (by first | exact hb5 | exact below_d hb5)
           have t1 := cell_up y1 (by first | exact hb5 | exact below_d hb5)
           clear hb5 y3 y0 y1))
      all_goals
       clear f0 f1 f2 f3
       have hj2 := hj1.out
       have hj3 : (j : Int) < (P.length : Int) := by omega
       go_wp2_with fail
       go_roundw
       case rel => exact ⟨j + 1, hj1.out, by go_num, by rw [hnew.out], hbC.out, hboxC.out⟩
       case measure => simp [intOf]; omega
     ·obtain rfl : j = P.length := by omega
      rw [List.take_length, hT2.out]
      replace hbA := Hd hbA
      replace hboxA := Hd hboxA
      have x0 := hboxA.out.cell 0
      have x1 := hboxA.out.cell 1
      have x2 := hboxA.out.cell 2
      have x4 := hboxA.out.cell 4
      have x5 := hboxA.out.cell 5
      have x6 := hboxA.out.cell 6
      have x7 := hboxA.out.cell 7
      have x8 := hboxA.out.cell 8
      have x9 := hboxA.out.cell 9
      have x10 := hboxA.out.cell 10
      have x11 := hboxA.out.cell 11
      go_wp2_with fail
      refine (hC0.out _).mono ?_
      rintro e w' ⟨rfl, rfl⟩
      go_upto_if 62 with fail
      go_cut [4] (fun s4 wx => s4 = .string T3 ∧ Below w.heap.size w wx ∧ IsC wx w.heap.size 38 #[.int .i64 (k : Int), .int .u64 E, .int .i64 C, .slice a P.length c, .int .u32 A, .int .u32 N, .int .i64 cK, .int .u64 cE, .int .i64 cC, .slice b cP.length d, .int .i64 U, .string B])
      case first =>
       cases bC with
       | false =>
         obtain rfl : lC0 = [] := hlC.out.symm
         go_wp2_with fail
         go_meet
         exact ⟨by rw [← hT3.out, ← hT2.out, List.append_nil], hbA.out, hboxA.out⟩
       | true =>
         have hx : 32 :: digs (C.toNat) = lC0 := hlC.out
         have hq := congrArg List.length hx
         simp only [List.length_cons] at hq
         have h2 := zl.out
         have h3 := z2.out
         have h4 := hNeg.out.1 rfl
         have h5 := hCu.out
         have cA := digits_c C.toNat (by omega)
         rw [show ((C.toNat : Nat) : Int) = C by omega] at cA
         obtain ⟨D1, hD1⟩ : ∃ x, text (digs (C.toNat)) = x := ⟨_, rfl⟩
         have sD1 : D1.size = (digs (C.toNat)).length := by rw [← hD1, text_size]
         rw [hD1] at cA
         have f0 : ¬ 9223372036854775807 < T2.size + 1 := by omega
         have f1 : ¬ 9223372036854775807 < T2.size + 1 + D1.size := by omega
         have hfn : T2 ++ ⟨#[32]⟩ ++ D1 = T3 := by
          rw [← hT3.out, ← hT2.out, ← hx, txt_cons, ← hD1]
         replace cA := Hd cA
         replace hfn := Hd hfn
         clear hq h2 h3 h4 h5 hx hD1 sD1
         go_wp2_with fail
         refine (cA.out.on _).mono ?_
         rintro e w4 ⟨rfl, hb4⟩
         have hbC := Hd (below_up hbA.out hbAs hb4)
         have hboxC := Hd (isC_of hb4 hboxA.out)
         clear hb4 cA x0 x1 x2 x3 x4 x5 x6 x7 x8 x9 x10 x11
         go_wp2_with fail
         go_meet
         exact ⟨by rw [← hfn.out], hbC.out, hboxC.out⟩
      case rest =>
       obtain ⟨rfl, hbN, hboxN⟩ := hcut
       replace hbA := Hd hbN
       have hboxA := Hd hboxN
       have hbAs := hbA.out.size
       clear hbN hboxN x0 x1 x2 x3 x4 x5 x6 x7 x8 x9 x10 x11
       obtain ⟨x0, x1, x2, x3, x4, x5, x6, x7, x8, x9, x10, x11⟩ := cells12 hboxA.out
       go_wp2_with fail
       refine (hQ0.out _).mono ?_
       rintro e w' ⟨rfl, rfl⟩
       go_upto_if 70 with fail
       go_cut [4] (fun s4 wx => s4 = .string T4 ∧ Below w.heap.size w wx ∧ IsC wx w.heap.size 38 #[.int .i64 (k : Int), .int .u64 E, .int .i64 C, .slice a P.length c, .int .u32 A, .int .u32 N, .int .i64 cK, .int .u64 cE, .int .i64 cC, .slice b cP.length d, .int .i64 U, .string B])
       case first =>
        cases bQ with
        | false =>
          obtain rfl : lQ0 = [] := hlQ.out.symm
          go_wp2_with fail
          go_meet
          exact ⟨by rw [← hT4.out, ← hT3.out, List.append_nil], hbA.out, hboxA.out⟩
        | true =>
          have hx : 32 :: (textS A.toNat ++ notL ++ textS N.toNat) = lQ0 := hlQ.out
          have hq := congrArg List.length hx
          simp only [List.length_append, List.length_cons, show notL.length = 5 from rfl] at hq
          have h1 := hAu.out
          have h1' := hNu.out
          have h2 := zl.out
          have h3 := z3.out
          have cA := refText_c A.toNat (by omega)
          have cB := refText_c N.toNat (by omega)
          rw [show ((A.toNat : Nat) : Int) = A by omega] at cA
          rw [show ((N.toNat : Nat) : Int) = N by omega] at cB
          obtain ⟨D1, hD1⟩ : ∃ x, text (textS A.toNat) = x := ⟨_, rfl⟩
          have sD1 : D1.size = (textS A.toNat).length := by rw [← hD1, text_size]
          obtain ⟨D2, hD2⟩ : ∃ x, text (textS N.toNat) = x := ⟨_, rfl⟩
          have sD2 : D2.size = (textS N.toNat).length := by rw [← hD2, text_size]
          rw [hD1] at cA
          rw [hD2] at cB
          have f0 : ¬ 9223372036854775807 < T3.size + 1 := by omega
          have f1 : ¬ 9223372036854775807 < T3.size + 1 + D1.size := by omega
          have f2 : ¬ 9223372036854775807 < T3.size + 1 + D1.size + 5 := by omega
          have f3 : ¬ 9223372036854775807 < T3.size + 1 + D1.size + 5 + D2.size := by omega
          have hfn : T3 ++ ⟨#[32]⟩ ++ D1 ++ ⟨#[32, 110, 111, 116, 32]⟩ ++ D2 = T4 := by
           have e : text (textS A.toNat ++ notL ++ textS N.toNat) = D1 ++ ⟨#[32, 110, 111, 116, 32]⟩ ++ D2 := by rw [← text_append, ← text_append, hD1, hD2]; rfl
           rw [← hT4.out, ← hT3.out, ← hx, txt_cons, e, ← ByteArray.append_assoc, ← ByteArray.append_assoc]
          replace cA := Hd cA
          replace cB := Hd cB
          replace hfn := Hd hfn
          clear hq h1 h1' h2 h3 hx hD1 hD2 sD1 sD2
          go_upto_region 15 with fail
          go_region_held3 (fun w1 => w1.cell? ⟨w.heap.size, 4, none⟩ = some (.int .u32 A) ∧ w1.cell? ⟨w.heap.size, 5, none⟩ = some (.int .u32 N)) (go_keep)
           (first
             |(go_at_call 39
               with_reducible refine Calls.mono (cA.out.on _) ?_
               rintro e w4 ⟨rfl, hb4⟩
               have hbB := Hd (below_up hbA.out hbAs (by first | exact below_d hb4 | exact hb4))
               have hboxB := Hd (isC_of (by first | exact below_d hb4 | exact hb4) hboxA.out)
               have hbBs := hbB.out.size
               have y4 := hboxB.out.cell 4
               have y5 := hboxB.out.cell 5
               clear hb4 x4 x5)
             |(go_at_call 39
               with_reducible refine Calls.mono (cB.out.on _) ?_
               rintro e w5 ⟨rfl, hb5⟩
               have hbC := Hd (below_up hbB.out hbBs (by first | exact hb5 | exact below_d hb5))
               have hboxC := Hd (isC_of (by first | exact hb5 | exact below_d hb5) hboxB.out)
               have t4 := hboxC.out.cell 4
               have t5 := hboxC.out.cell 5
               clear hb5 y4 y5))
          all_goals
           clear f0 f1 f2 f3 x0 x1 x2 x3 x6 x7 x8 x9 x10 x11
           go_wp2_with fail
           go_meet
           exact ⟨by rw [← hfn.out], hbC.out, hboxC.out⟩
       case rest =>
        obtain ⟨rfl, hbN, hboxN⟩ := hcut
        replace hbA := Hd hbN
        have hboxA := Hd hboxN
        have hbAs := hbA.out.size
        clear hbN hboxN x0 x1 x2 x3 x4 x5 x6 x7 x8 x9 x10 x11
        obtain ⟨x0, x1, x2, x3, x4, x5, x6, x7, x8, x9, x10, x11⟩ := cells12 hboxA.out
        go_wp2_with fail
        refine (hD0.out _).mono ?_
        rintro e w' ⟨rfl, rfl⟩
        go_upto_if 83 with fail
        go_cut [4] (fun s4 wx => s4 = .string T5 ∧ Below w.heap.size w wx ∧ IsC wx w.heap.size 38 #[.int .i64 (k : Int), .int .u64 E, .int .i64 C, .slice a P.length c, .int .u32 A, .int .u32 N, .int .i64 cK, .int .u64 cE, .int .i64 cC, .slice b cP.length d, .int .i64 U, .string B])
        case first =>
         cases bD with
         | false =>
           obtain rfl : lD0 = [] := hlD.out.symm
           go_wp2_with fail
           go_meet
           exact ⟨by rw [← hT5.out, ← hT4.out, List.append_nil], hbA.out, hboxA.out⟩
         | true =>
           obtain ⟨hk8, hcm⟩ := hNeg.out.2.2 rfl
           have hx : 32 :: line1F (asOpF cK cE cC cP) = lD0 := hlD.out
           have hq := congrArg List.length hx
           simp only [List.length_cons] at hq
           have h2 := zl.out
           have h3 := z4.out
           have cA := rcommand_c cK cE cC hcm cP (.slice b cP.length d) wc (hi2.out.below hbA.out)
           have cB := hrec.out hk8 hcm
           unfold cmdv at cA
           generalize line1F (asOpF cK cE cC cP) = L1 at *
           obtain ⟨D1, hD1⟩ : ∃ x, text (L1) = x := ⟨_, rfl⟩
           have sD1 : D1.size = (L1).length := by rw [← hD1, text_size]
           simp only [hD1] at cB
           have f0 : ¬ 9223372036854775807 < T4.size + 1 := by omega
           have f1 : ¬ 9223372036854775807 < T4.size + 1 + D1.size := by omega
           have hfn : T4 ++ ⟨#[32]⟩ ++ D1 = T5 := by
            rw [← hT5.out, ← hT4.out, ← hx, txt_cons, ← hD1]
           replace cA := Hd cA
           replace cB := Hd cB
           replace hfn := Hd hfn
           clear hq h2 h3 hx hD1 sD1 hcm hk8
           go_wp2_with fail
           refine cA.out.mono ?_
           rintro e w4 ⟨rfl, hb4⟩
           have cB4 := Hd (cB.out w4 _ ((hi2.out.below hbA.out).below hb4))
           have hbB := Hd (below_up hbA.out hbAs hb4)
           have hboxB := Hd (isC_of hb4 hboxA.out)
           have hbBs := hbB.out.size
           clear hb4 cA cB x0 x1 x2 x3 x4 x5 x6 x7 x8 x9 x10 x11
           go_wp2_with fail
           refine cB4.out.mono ?_
           rintro e w5 ⟨rfl, hb5⟩
           have hbC := Hd (below_up hbB.out hbBs hb5)
           have hboxC := Hd (isC_of hb5 hboxB.out)
           clear hb5 cB4
           go_wp2_with fail
           go_meet
           exact ⟨by rw [← hfn.out], hbC.out, hboxC.out⟩
        case rest =>
         obtain ⟨rfl, hbN, hboxN⟩ := hcut
         replace hbA := Hd hbN
         have hboxA := Hd hboxN
         have hbAs := hbA.out.size
         clear hbN hboxN x0 x1 x2 x3 x4 x5 x6 x7 x8 x9 x10 x11
         obtain ⟨x0, x1, x2, x3, x4, x5, x6, x7, x8, x9, x10, x11⟩ := cells12 hboxA.out
         go_wp2_with fail
         refine (hU0.out _).mono ?_
         rintro e w' ⟨rfl, rfl⟩
         go_upto_if 92 with fail
         go_cut [4] (fun s4 wx => s4 = .string T6 ∧ Below w.heap.size w wx ∧ IsC wx w.heap.size 38 #[.int .i64 (k : Int), .int .u64 E, .int .i64 C, .slice a P.length c, .int .u32 A, .int .u32 N, .int .i64 cK, .int .u64 cE, .int .i64 cC, .slice b cP.length d, .int .i64 U, .string B])
         case first =>
          cases bU with
          | false =>
            obtain rfl : lU0 = [] := hlU.out.symm
            go_wp2_with fail
            go_meet
            exact ⟨by rw [← hT6.out, ← hT5.out, List.append_nil], hbA.out, hboxA.out⟩
          | true =>
            have hx : 32 :: digs (U.toNat) = lU0 := hlU.out
            have hq := congrArg List.length hx
            simp only [List.length_cons] at hq
            have h2 := zl.out
            have h3 := z5.out
            have h4 := hNeg.out.2.1 rfl
            have h5 := hUu.out
            have cA := digits_c U.toNat (by omega)
            rw [show ((U.toNat : Nat) : Int) = U by omega] at cA
            obtain ⟨D1, hD1⟩ : ∃ x, text (digs (U.toNat)) = x := ⟨_, rfl⟩
            have sD1 : D1.size = (digs (U.toNat)).length := by rw [← hD1, text_size]
            rw [hD1] at cA
            have f0 : ¬ 9223372036854775807 < T5.size + 1 := by omega
            have f1 : ¬ 9223372036854775807 < T5.size + 1 + D1.size := by omega
            have hfn : T5 ++ ⟨#[32]⟩ ++ D1 = T6 := by
             rw [← hT6.out, ← hT5.out, ← hx, txt_cons, ← hD1]
            replace cA := Hd cA
            replace hfn := Hd hfn
            clear hq h2 h3 h4 h5 hx hD1 sD1
            go_wp2_with fail
            refine (cA.out.on _).mono ?_
            rintro e w4 ⟨rfl, hb4⟩
            have hbC := Hd (below_up hbA.out hbAs hb4)
            have hboxC := Hd (isC_of hb4 hboxA.out)
            clear hb4 cA x0 x1 x2 x3 x4 x5 x6 x7 x8 x9 x10 x11
            go_wp2_with fail
            go_meet
            exact ⟨by rw [← hfn.out], hbC.out, hboxC.out⟩
         case rest =>
          obtain ⟨rfl, hbN, hboxN⟩ := hcut
          replace hbA := Hd hbN
          have hboxA := Hd hboxN
          have hbAs := hbA.out.size
          clear hbN hboxN x0 x1 x2 x3 x4 x5 x6 x7 x8 x9 x10 x11
          obtain ⟨x0, x1, x2, x3, x4, x5, x6, x7, x8, x9, x10, x11⟩ := cells12 hboxA.out
          go_wp2_with fail
          refine (hB0.out _).mono ?_
          rintro e w' ⟨rfl, rfl⟩
          have hlast : ∀ x : ByteArray, x = T7 → x = text R := fun x h => h.trans hTR.out
          cases bB with
          | false =>
            obtain rfl : lB0 = [] := hlB.out.symm.trans (if_neg (fun h => Bool.noConfusion h.1))
            go_wp2_with fail
            go_ret
            exact ⟨congrArg (fun x => Ending.returned (Value.string x)) (hlast T6 (by rw [← hT6.out, ← hT7.out, List.append_nil])), hbA.out⟩
          | true =>
            by_cases hB0' : 0 < B.size
            ·have hx : 32 :: hexF (byts B) = lB0 := by rw [← hlB.out, if_pos ⟨rfl, hB0'⟩]
             have pB : decide ((0 : Int) < (B.size : Int)) = true := decide_eq_true (by omega)
             have pI : (0 : Int) < (B.size : Int) := by omega
             have hq := congrArg List.length hx
             simp only [List.length_cons] at hq
             have h2 := zl.out
             have h3 := z6.out
             have h4 : B.size ≤ 1000000 := by have := hexF_len (byts B); rw [byts_length] at this; omega
             have cA := refHex_c B h4 wc
             obtain ⟨D1, hD1⟩ : ∃ x, text (hexF (byts B)) = x := ⟨_, rfl⟩
             have sD1 : D1.size = (hexF (byts B)).length := by rw [← hD1, text_size]
             rw [hD1] at cA
             have f0 : ¬ 9223372036854775807 < T6.size + 1 := by omega
             have f1 : ¬ 9223372036854775807 < T6.size + 1 + D1.size := by omega
             have hfn : T6 ++ ⟨#[32]⟩ ++ D1 = T7 := by
              rw [← hT7.out, ← hT6.out, ← hx, txt_cons, ← hD1]
             replace cA := Hd cA
             replace hfn := Hd hfn
             clear hq h2 h3 h4 hx hD1 sD1
             go_wp2_with fail
             refine cA.out.mono ?_
             rintro e w4 ⟨rfl, hb4⟩
             have hbC := Hd (below_up hbA.out hbAs hb4)
             clear hb4 cA x0 x1 x2 x3 x4 x5 x6 x7 x8 x9 x10 x11
             go_wp2_with fail
             go_ret
             exact ⟨congrArg (fun x => Ending.returned (Value.string x)) (hlast _ hfn.out), hbC.out⟩
            ·have pB : decide ((0 : Int) < (B.size : Int)) = false := decide_eq_false (by omega)
             have pI : ¬ (0 : Int) < (B.size : Int) := by omega
             obtain rfl : lB0 = [] := hlB.out.symm.trans (if_neg (fun h => hB0' h.2))
             go_wp2_with fail
             go_ret
             exact ⟨congrArg (fun x => Ending.returned (Value.string x)) (hlast T6 (by rw [← hT6.out, ← hT7.out, List.append_nil])), hbA.out⟩
theorem rline_1 (o : OpD) (h8 : o.K ≠ 8) (hs : OpSmall o) (s t : Value) (w : World) (hin : OpIn w o s t) :
 Calls Tryz.prog 12 #[opv o s t] w fun e w' => e = .returned (.string (text (lineF o))) ∧ Below w.heap.size w w' :=
 rlineG o hs s t w hin (fun w' h => ris_c o hs s t w' h) (fun h => absurd h h8)
/-- an op's line -/
theorem rline_c (o : OpD) (hs : OpSmall o) (s t : Value) (w : World) (hin : OpIn w o s t) :
 Calls Tryz.prog 12 #[opv o s t] w fun e w' => e = .returned (.string (text (lineF o))) ∧ Below w.heap.size w w' := by
 refine rlineG o hs s t w hin (fun w' h => ris_c o hs s t w' h) (fun h8 hc w' s' hi => ?_)
 have hn := asOp_kind o.cK o.cE o.cC o.cP
 have h1 := rline_1 (asOpF o.cK o.cE o.cC o.cP) hn (asOp_small hs) s' (.slice none 0 0) w' ?_
 ·rw [show lineF (asOpF o.cK o.cE o.cC o.cP) = line1F (asOpF o.cK o.cE o.cC o.cP) from by unfold lineF line1F told1F restF; rw [if_neg hn, show isOpF (asOpF o.cK o.cE o.cC o.cP) = is1F (asOpF o.cK o.cE o.cC o.cP) from if_neg hn]] at h1
  exact h1
 ·unfold asOpF
  rw [if_pos hc]
  exact ⟨hi, InS.nil _ _ _⟩
end Go.Proofs.YtjjgbillihedgaaGreatDoor
