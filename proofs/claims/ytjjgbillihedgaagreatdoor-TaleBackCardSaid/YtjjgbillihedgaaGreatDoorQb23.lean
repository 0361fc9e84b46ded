/- parts of the proof, merged: TlZ1, TlB0, TlZ4, TlZ3, TlD4, TlZ6, TlZ7 -/
import Derived.Test.YtjjgbillihedgaaGreatDoorQb22
set_option linter.unusedSimpArgs false
set_option linter.unusedVariables false
set_option maxHeartbeats 32000000
set_option maxRecDepth 100000
namespace Go.Proofs.YtjjgbillihedgaaGreatDoor
open Go.RowKit
open Rf
open Sg
open Wide
open Tl
namespace Tl
def longP (p : PartD) : Bool := decide (110 < p.V.length)
def greatF (o : OpD) : Bool := decide (30 < o.P.length) || decide (30 < o.cP.length) || decide (16394 < o.B.size) || o.P.any longP || o.cP.any longP
theorem any_take {α : Type} (f : α → Bool) (l : List α) (k : Nat) (h : k < l.length) : (l.take (k + 1)).any f = ((l.take k).any f || f l[k]) := by
 rw [List.take_succ_eq_append_getElem h, List.any_append]
 simp
theorem any_at {α : Type} (f : α → Bool) (l : List α) (k : Nat) (h : k < l.length) (hf : f l[k] = true) : l.any f = true := List.any_eq_true.2 ⟨l[k], List.getElem_mem h, hf⟩
end Tl
theorem great_c (o : OpD) (s t : Value) (w : World) (hin : OpIn w o s t) : Calls Tryz.prog 7 #[opv o s t] w fun e w' => e = .returned (.bool (greatF o)) ∧ Below w.heap.size w w' := by
 obtain ⟨hi1, hi2⟩ := hin
 obtain ⟨a, c, rfl, _⟩ := id hi1
 obtain ⟨b, d, rfl, _⟩ := id hi2
 obtain ⟨R, hR⟩ : ∃ R, greatF o = R := ⟨_, rfl⟩
 rw [hR]
 unfold greatF at hR
 obtain ⟨K, E, C, P, A, N, cK, cE, cC, cP, U, B⟩ := o
 unfold opv
 dsimp only at *
 have hb1 := below1 w (.cells #[.int .i64 K, .int .u64 E, .int .i64 C, .slice a P.length c, .int .u32 A, .int .u32 N, .int .i64 cK, .int .u64 cE, .int .i64 cC, .slice b cP.length d, .int .i64 U, .string B] 32)
 have hbox := IsC.new w 32 #[.int .i64 K, .int .u64 E, .int .i64 C, .slice a P.length c, .int .u32 A, .int .u32 N, .int .i64 cK, .int .u64 cE, .int .i64 cC, .slice b cP.length d, .int .i64 U, .string B]
 have q3 := hbox.cell 3
 have q9 := hbox.cell 9
 have q11 := hbox.cell 11
 have hP := hi1.below hb1
 have hQ := hi2.below hb1
 clear hi1 hi2 hbox
 replace hb1 := Hd hb1
 replace hP := Hd hP
 replace hQ := Hd hQ
 by_cases g1 : 30 < P.length
 ·have g1I : (30 : Int) < (P.length : Int) := by omega
  obtain rfl : true = R := by rw [← hR, decide_eq_true g1]; simp
  clear hR
  go_enter Tryz.func7, Tryz.ntmps7
  go_wp2_with fail
  go_ret
  exact ⟨rfl, hb1.out⟩
 have g1I : ¬ (30 : Int) < (P.length : Int) := by omega
 by_cases g2 : 30 < cP.length
 ·have g2I : (30 : Int) < (cP.length : Int) := by omega
  obtain rfl : true = R := by rw [← hR, decide_eq_true g2]; simp
  clear hR
  go_enter Tryz.func7, Tryz.ntmps7
  go_wp2_with fail
  go_ret
  exact ⟨rfl, hb1.out⟩
 have g2I : ¬ (30 : Int) < (cP.length : Int) := by omega
 by_cases g3 : 16394 < B.size
 ·have g3I : (16394 : Int) < (B.size : Int) := by omega
  obtain rfl : true = R := by rw [← hR, decide_eq_true g3]; simp
  clear hR
  go_enter Tryz.func7, Tryz.ntmps7
  go_wp2_with fail
  go_ret
  exact ⟨rfl, hb1.out⟩
 have g3I : ¬ (16394 : Int) < (B.size : Int) := by omega
 rw [decide_eq_false g1, decide_eq_false g2, decide_eq_false g3, Bool.false_or, Bool.false_or, Bool.false_or] at hR
 have hR2 := Hd hR
 clear hR
 go_enter Tryz.func7, Tryz.ntmps7
 go_wp2_with fail
 obtain ⟨W, hW⟩ : ∃ W, w.alloc (.cells #[.int .i64 K, .int .u64 E, .int .i64 C, .slice a P.length c, .int .u32 A, .int .u32 N, .int .i64 cK, .int .u64 cE, .int .i64 cC, .slice b cP.length d, .int .i64 U, .string B] 32) = W := ⟨_, rfl⟩
 rw [hW] at hb1 hP hQ q3 q9 q11
 rw [hW]
 replace hW := Hd hW
 go_loopw [3] (fun i wr => ∃ k : Nat, k ≤ P.length ∧ i = .int .i64 k ∧ (P.take k).any longP = false ∧ W = wr) (fun i _ => P.length - (intOf i).toNat)
 case atStart => exact ⟨0, Nat.zero_le _, rfl, rfl, rfl⟩
 case round =>
  obtain ⟨k, hk, rfl, hany, rfl⟩ := hrel
  by_cases hlt : k < P.length
  ·obtain ⟨g, o, ts, rfl, hgz, hc0, hc1, hv⟩ := hP.out.at k hlt
   obtain ⟨va, vc, rfl, _⟩ := hv
   have hltI : (k : Int) < (P.length : Int) := by omega
   have hat := any_take longP P k hlt
   have hall := any_at longP P k hlt
   generalize P[k] = x at *
   rw [hany, Bool.false_or] at hat
   by_cases hx : 110 < x.V.length
   ·have hxI : (110 : Int) < (x.V.length : Int) := by omega
    have hr := hR2.out
    rw [hall (decide_eq_true hx), Bool.true_or] at hr
    subst hr
    clear hat hall hany hP hQ
    go_wp2_with fail
    go_ret
    exact ⟨rfl, hb1.out⟩
   ·have hxI : ¬ (110 : Int) < (x.V.length : Int) := by omega
    have hat2 := Hd (hat.trans (decide_eq_false hx))
    clear hat hall hany
    go_wp2_with fail
    go_roundw
    case rel => exact ⟨k + 1, by omega, by go_num, hat2.out, trivial⟩
    case measure => simp [intOf]; omega
  ·obtain rfl : k = P.length := by omega
   rw [List.take_length] at hany
   have hR3 := hR2.out
   rw [hany, Bool.false_or] at hR3
   replace hR3 := Hd hR3
   clear hR2 hany
   go_wp2_with fail
   go_loopw [4] (fun i wr => ∃ k : Nat, k ≤ cP.length ∧ i = .int .i64 k ∧ (cP.take k).any longP = false ∧ W = wr) (fun i _ => cP.length - (intOf i).toNat)
   case atStart => exact ⟨0, Nat.zero_le _, rfl, rfl, rfl⟩
   case round =>
    obtain ⟨k, hk, rfl, hany, rfl⟩ := hrel
    by_cases hlt : k < cP.length
    ·obtain ⟨g, o, ts, rfl, hgz, hc0, hc1, hv⟩ := hQ.out.at k hlt
     obtain ⟨va, vc, rfl, _⟩ := hv
     have hltI : (k : Int) < (cP.length : Int) := by omega
     have hat := any_take longP cP k hlt
     have hall := any_at longP cP k hlt
     generalize cP[k] = x at *
     rw [hany, Bool.false_or] at hat
     by_cases hx : 110 < x.V.length
     ·have hxI : (110 : Int) < (x.V.length : Int) := by omega
      have hr := hR3.out
      rw [hall (decide_eq_true hx)] at hr
      subst hr
      clear hat hall hany hP hQ
      go_wp2_with fail
      go_ret
      exact ⟨rfl, hb1.out⟩
     ·have hxI : ¬ (110 : Int) < (x.V.length : Int) := by omega
      have hat2 := Hd (hat.trans (decide_eq_false hx))
      clear hat hall hany
      go_wp2_with fail
      go_roundw
      case rel => exact ⟨k + 1, by omega, by go_num, hat2.out, trivial⟩
      case measure => simp [intOf]; omega
    ·obtain rfl : k = cP.length := by omega
     rw [List.take_length] at hany
     have hr := hR3.out
     rw [hany] at hr
     subst hr
     clear hany hP hQ
     go_wp2_with fail
     go_ret
     exact ⟨rfl, hb1.out⟩
namespace Tl
theorem byts_inj {a b : ByteArray} (h : byts a = byts b) : a = b := by rw [← text_byts a, ← text_byts b, h]
theorem sameD_iff (x y : OpD) : sameD x y = true ↔ x = y := by
 unfold sameD
 rw [decide_eq_true_iff]
 constructor
 ·rintro ⟨h0, h1, h2, h3, h4, h5, h6, h7, h8, h9, h10, h11⟩
  exact OpD.ext' h0 h1 h2 h3 h4 h5 h8 h9 h10 h11 h6 (byts_inj h7)
 ·rintro rfl
  exact ⟨rfl, rfl, rfl, rfl, rfl, rfl, rfl, rfl, rfl, rfl, rfl, rfl⟩
theorem line_same (x y : OpD) (hx : x.Ok) (hy : y.Ok) (ix : isOpF x = true) (iy : isOpF y = true) : (decide (lineF x = lineF y) != sameD x y) = false := by
 have h : decide (lineF x = lineF y) = sameD x y := by
  rw [Bool.eq_iff_iff, decide_eq_true_iff, sameD_iff]
  constructor
  ·intro h
   rw [← line_back x hx ix, ← line_back y hy iy, h]
  ·rintro rfl; rfl
 rw [h]
 cases sameD x y <;> rfl
theorem line_is {o : OpD} (h : lineF o ≠ []) : isOpF o = true := by
 cases hh : isOpF o with
 | true => rfl
 | false =>
   exfalso
   apply h
   unfold lineF
   rw [hh]
   rfl
theorem flatF_le (os : List OpD) (h : ∀ o ∈ os, o.Ok) : (flatF os).length ≤ 99501 * os.length := by
 induction os with
 | nil => simp [flatF]
 | cons o os ih =>
   have h1 := ih (fun x hx => h x (List.mem_cons_of_mem _ hx))
   have h2 := line_le o (h o (List.mem_cons_self ..))
   have e : flatF (o :: os) = (lineF o ++ [10]) ++ flatF os := rfl
   rw [e, List.length_append, List.length_append]
   simp only [List.length_cons, List.length_nil]
   omega
theorem texts_cases (os : List OpD) : (textsF os = ([], 4)) ∨ (textsF os = (flatF os, 0) ∧ ∀ o ∈ os, isOpF o = true) := by
 unfold textsF
 split
 ·exact .inl rfl
 ·rename_i h
  refine .inr ⟨rfl, fun o ho => line_is ?_⟩
  intro e
  apply h
  exact List.any_eq_true.2 ⟨o, ho, by rw [e]; rfl⟩
theorem parse_cases (l : List UInt8) : (parseOF l).2 ≠ 0 ∨ ((parseOF l).2 = 0 ∧ isOpF (parseOF l).1 = true ∧ lineF (parseOF l).1 = l) := by
 unfold parseOF
 split
 ·exact .inl (by decide)
 ·rename_i h
  refine .inr ⟨rfl, ?_, ?_⟩
  ·apply line_is
   intro e
   apply h
   by_cases hl : l = []
   ·exact .inl hl
   ·exact .inr (by show lineF (guessF l) ≠ l; rw [show lineF (guessF l) = [] from e]; exact fun h' => hl h'.symm)
  ·exact Classical.byContradiction fun e => h (.inr e)
theorem great_small {o : OpD} (ok : o.Ok) (hB : o.B.size ≤ maxLen) (h : greatF o = false) : OpSmall o ∧ o.P.length ≤ 30 ∧ o.cP.length ≤ 30 ∧ (∀ p ∈ o.P, p.V.length ≤ 110) ∧ (∀ p ∈ o.cP, p.V.length ≤ 110) := by
 unfold greatF at h
 simp only [Bool.or_eq_false_iff, decide_eq_false_iff_not, List.any_eq_false, longP, decide_eq_true_eq] at h
 obtain ⟨⟨⟨⟨h1, h2⟩, h3⟩, h4⟩, h5⟩ := h
 have p4 : ∀ p ∈ o.P, p.V.length ≤ 110 := fun p hp => by have := h4 p hp; omega
 have p5 : ∀ p ∈ o.cP, p.V.length ≤ 110 := fun p hp => by have := h5 p hp; omega
 refine ⟨⟨ok, ⟨by omega, fun p hp => ⟨ok.P p hp, by have := p4 p hp; omega⟩⟩, by omega, ⟨by omega, fun p hp => ⟨ok.cP p hp, by have := p5 p hp; omega⟩⟩, by omega, hB⟩, by omega, by omega, p4, p5⟩
end Tl
theorem formL_c (o : OpD) (s t : Value) (w : World) (hin : OpIn w o s t) : Calls Tryz.prog 8 #[opv o s t] w fun e w' => e = .returned (opv o s t) ∧ Below w.heap.size w w' := by
 obtain ⟨⟨a, c, rfl, hx1⟩, ⟨b, d, rfl, hx2⟩⟩ := hin
 clear hx1 hx2
 obtain ⟨K, E, C, P, A, N, cK, cE, cC, cP, U, B⟩ := o
 unfold opv
 dsimp only at *
 generalize P.length = n at *
 generalize cP.length = m at *
 have hb1 := (below1 w (.cells #[.int .i64 K, .int .u64 E, .int .i64 C, .slice a n c, .int .u32 A, .int .u32 N, .int .i64 cK, .int .u64 cE, .int .i64 cC, .slice b m d, .int .i64 U, .string B] 32)).alloc (by rw [size_alloc]; omega) (.cells #[.int .i64 0, .int .u64 0, .int .i64 0, .slice none 0 0, .int .u32 0, .int .u32 0, .int .i64 0, .int .u64 0, .int .i64 0, .slice none 0 0, .int .i64 0, .string ⟨#[]⟩] 38)
 have hb2 := hb1.alloc hb1.size (.cells #[.int .i64 cK, .int .u64 cE, .int .i64 cC, .slice b m d] 36)
 have hA := ((IsC.new w 32 #[.int .i64 K, .int .u64 E, .int .i64 C, .slice a n c, .int .u32 A, .int .u32 N, .int .i64 cK, .int .u64 cE, .int .i64 cC, .slice b m d, .int .i64 U, .string B]).alloc (.cells #[.int .i64 0, .int .u64 0, .int .i64 0, .slice none 0 0, .int .u32 0, .int .u32 0, .int .i64 0, .int .u64 0, .int .i64 0, .slice none 0 0, .int .i64 0, .string ⟨#[]⟩] 38)).alloc (.cells #[.int .i64 cK, .int .u64 cE, .int .i64 cC, .slice b m d] 36)
 have hZ := (IsC.new (w.alloc (.cells #[.int .i64 K, .int .u64 E, .int .i64 C, .slice a n c, .int .u32 A, .int .u32 N, .int .i64 cK, .int .u64 cE, .int .i64 cC, .slice b m d, .int .i64 U, .string B] 32)) 38 #[.int .i64 0, .int .u64 0, .int .i64 0, .slice none 0 0, .int .u32 0, .int .u32 0, .int .i64 0, .int .u64 0, .int .i64 0, .slice none 0 0, .int .i64 0, .string ⟨#[]⟩]).alloc (.cells #[.int .i64 cK, .int .u64 cE, .int .i64 cC, .slice b m d] 36)
 have hD := IsC.new ((w.alloc (.cells #[.int .i64 K, .int .u64 E, .int .i64 C, .slice a n c, .int .u32 A, .int .u32 N, .int .i64 cK, .int .u64 cE, .int .i64 cC, .slice b m d, .int .i64 U, .string B] 32)).alloc (.cells #[.int .i64 0, .int .u64 0, .int .i64 0, .slice none 0 0, .int .u32 0, .int .u32 0, .int .i64 0, .int .u64 0, .int .i64 0, .slice none 0 0, .int .i64 0, .string ⟨#[]⟩] 38)) 36 #[.int .i64 cK, .int .u64 cE, .int .i64 cC, .slice b m d]
 rw [size_alloc] at hZ
 rw [size_alloc, size_alloc] at hD
 have hA1 := (IsC.new w 32 #[.int .i64 K, .int .u64 E, .int .i64 C, .slice a n c, .int .u32 A, .int .u32 N, .int .i64 cK, .int .u64 cE, .int .i64 cC, .slice b m d, .int .i64 U, .string B]).alloc (.cells #[.int .i64 0, .int .u64 0, .int .i64 0, .slice none 0 0, .int .u32 0, .int .u32 0, .int .i64 0, .int .u64 0, .int .i64 0, .slice none 0 0, .int .i64 0, .string ⟨#[]⟩] 38)
 have k6 := hA1.cell 6
 have k7 := hA1.cell 7
 have k8 := hA1.cell 8
 have k9 := hA1.cell 9
 clear hA1 hb1
 replace hA := Hd hA
 replace hZ := Hd hZ
 replace hD := Hd hD
 replace hb2 := Hd hb2
 go_enter Tryz.func8, Tryz.ntmps8
 go_upto_region 2 with fail
 obtain ⟨W, hW⟩ : ∃ W, ((w.alloc (.cells #[.int .i64 K, .int .u64 E, .int .i64 C, .slice a n c, .int .u32 A, .int .u32 N, .int .i64 cK, .int .u64 cE, .int .i64 cC, .slice b m d, .int .i64 U, .string B] 32)).alloc (.cells #[.int .i64 0, .int .u64 0, .int .i64 0, .slice none 0 0, .int .u32 0, .int .u32 0, .int .i64 0, .int .u64 0, .int .i64 0, .slice none 0 0, .int .i64 0, .string ⟨#[]⟩] 38)).alloc (.cells #[.int .i64 cK, .int .u64 cE, .int .i64 cC, .slice b m d] 36) = W := ⟨_, rfl⟩
 rw [hW] at hA hZ hD hb2
 rw [hW]
 replace hW := Hd hW
 clear k6 k7 k8 k9
 obtain ⟨x0, x1, x2, x3, x4, x5, x6, x7, x8, x9, x10, x11⟩ := cells12 hA.out
 obtain ⟨z0, z1, z2, z3, z4, z5, z6, z7, z8, z9, z10, z11⟩ := cells12 hZ.out
 obtain ⟨f0, f1, f2, f3, f4, f5, f6, f7, f8, f9, f10, f11⟩ := fr12 hZ.out
 have d0 := hD.out.cell 0
 have d1 := hD.out.cell 1
 have d2 := hD.out.cell 2
 have d3 := hD.out.cell 3
 have hs12 : IsC (set12 W (w.heap.size + 1) (.int .i64 K) (.int .u64 E) (.int .i64 C) (.slice a n c) (.int .u32 A) (.int .u32 N) (.int .i64 cK) (.int .u64 cE) (.int .i64 cC) (.slice b m d) (.int .i64 U) (.string B)) (w.heap.size + 1) 38 #[.int .i64 K, .int .u64 E, .int .i64 C, .slice a n c, .int .u32 A, .int .u32 N, .int .i64 cK, .int .u64 cE, .int .i64 cC, .slice b m d, .int .i64 U, .string B] := isC_set12 hZ.out
 have t0 := Hd (hs12.cell 0)
 have t1 := Hd (hs12.cell 1)
 have t2 := Hd (hs12.cell 2)
 have t3 := Hd (hs12.cell 3)
 have t4 := Hd (hs12.cell 4)
 have t5 := Hd (hs12.cell 5)
 have t6 := Hd (hs12.cell 6)
 have t7 := Hd (hs12.cell 7)
 have t8 := Hd (hs12.cell 8)
 have t9 := Hd (hs12.cell 9)
 have t10 := Hd (hs12.cell 10)
 have t11 := Hd (hs12.cell 11)
 have hfin := Hd (show Below w.heap.size w (set12 W (w.heap.size + 1) (.int .i64 K) (.int .u64 E) (.int .i64 C) (.slice a n c) (.int .u32 A) (.int .u32 N) (.int .i64 cK) (.int .u64 cE) (.int .i64 cC) (.slice b m d) (.int .i64 U) (.string B)) from below_set12 (w := W) hb2.out (by omega))
 clear hs12 hA hZ hD hb2
 go_wp2_with fail
 obtain ⟨wf, hwf⟩ : ∃ wf, set12 W (w.heap.size + 1) (.int .i64 K) (.int .u64 E) (.int .i64 C) (.slice a n c) (.int .u32 A) (.int .u32 N) (.int .i64 cK) (.int .u64 cE) (.int .i64 cC) (.slice b m d) (.int .i64 U) (.string B) = wf := ⟨_, rfl⟩
 have s0 := t0.out
 have s1 := t1.out
 have s2 := t2.out
 have s3 := t3.out
 have s4 := t4.out
 have s5 := t5.out
 have s6 := t6.out
 have s7 := t7.out
 have s8 := t8.out
 have s9 := t9.out
 have s10 := t10.out
 have s11 := t11.out
 have r0 := hfin.out
 rw [hwf] at s0 s1 s2 s3 s4 s5 s6 s7 s8 s9 s10 s11 r0
 rw [show (((((((((((W.setCell ⟨w.heap.size + 1, 0, none⟩ (.int .i64 K)).setCell ⟨w.heap.size + 1, 1, none⟩ (.int .u64 E)).setCell ⟨w.heap.size + 1, 2, none⟩ (.int .i64 C)).setCell ⟨w.heap.size + 1, 3, none⟩ (.slice a n c)).setCell ⟨w.heap.size + 1, 4, none⟩ (.int .u32 A)).setCell ⟨w.heap.size + 1, 5, none⟩ (.int .u32 N)).setCell ⟨w.heap.size + 1, 6, none⟩ (.int .i64 cK)).setCell ⟨w.heap.size + 1, 7, none⟩ (.int .u64 cE)).setCell ⟨w.heap.size + 1, 8, none⟩ (.int .i64 cC)).setCell ⟨w.heap.size + 1, 9, none⟩ (.slice b m d)).setCell ⟨w.heap.size + 1, 10, none⟩ (.int .i64 U)).setCell ⟨w.heap.size + 1, 11, none⟩ (.string B) = wf from hwf]
 (try simp only [Exit.inBlock, Exit.then])
 refine bodyPost_ret (by simp [results, Tryz.results8, go_sem, s0, s1, s2, s3, s4, s5, s6, s7, s8, s9, s10, s11]; try rfl) rfl ?_
 exact ⟨rfl, r0⟩
namespace Tl
def o1 : OpD := ⟨3, 8589934593, 0, [⟨3, [⟨true, 0, 7⟩]⟩], 0, 0, 0, 0, 0, [], 0, sS⟩
def o2 : OpD := ⟨8, 0, 0, [], 0, 0, 5, 4294967297, 4, [], 0, sS⟩
def o3 : OpD := ⟨10, 0, 0, [], 0, 0, 0, 0, 0, [], 0, ⟨#[15]⟩⟩
def o4 : OpD := ⟨11, 0, 0, [], 0, 0, 0, 0, 0, [], 0, sS⟩
def o5 : OpD := ⟨1, 0, 0, [], 0, 0, 0, 0, 0, [], 0, sS⟩
def o6 : OpD := ⟨9, 0, 0, [], 0, 0, 0, 0, 0, [], 3, sS⟩
theorem is_o1 : isOpF o1 = true := by decide +kernel
theorem line_o1 : lineF o1 = [97, 100, 100, 32, 49, 32, 50, 32, 51, 61, 45, 55] := by decide +kernel
theorem ok_o1 : o1.Ok := by
 refine ⟨?_, ?_, ?_, ?_, ?_, ?_, ?_, ?_, ?_, ?_, ?_⟩ <;> first | (unfold i64; decide) | (unfold u64; decide) | (unfold u32; decide) | simp [o1, PartD.Ok, WI.Ok]
theorem is_o2 : isOpF o2 = true := by decide +kernel
theorem line_o2 : lineF o2 = [100, 101, 102, 101, 114, 32, 114, 101, 109, 111, 118, 101, 32, 49, 32, 49, 32, 52] := by decide +kernel
theorem ok_o2 : o2.Ok := by
 refine ⟨?_, ?_, ?_, ?_, ?_, ?_, ?_, ?_, ?_, ?_, ?_⟩ <;> first | (unfold i64; decide) | (unfold u64; decide) | (unfold u32; decide) | simp [o2, PartD.Ok, WI.Ok]
theorem line_o3 : lineF o3 = [98, 101, 103, 105, 110, 32, 48, 102] := by decide +kernel
theorem ok_o3 : o3.Ok := by
 refine ⟨?_, ?_, ?_, ?_, ?_, ?_, ?_, ?_, ?_, ?_, ?_⟩ <;> first | (unfold i64; decide) | (unfold u64; decide) | (unfold u32; decide) | simp [o3, PartD.Ok, WI.Ok]
theorem line_o4 : lineF o4 = [97, 98, 111, 114, 116] := by decide +kernel
theorem ok_o4 : o4.Ok := by
 refine ⟨?_, ?_, ?_, ?_, ?_, ?_, ?_, ?_, ?_, ?_, ?_⟩ <;> first | (unfold i64; decide) | (unfold u64; decide) | (unfold u32; decide) | simp [o4, PartD.Ok, WI.Ok]
theorem is_o5 : isOpF o5 = true := by decide +kernel
theorem line_o5 : lineF o5 = [115, 112, 97, 119, 110] := by decide +kernel
theorem ok_o5 : o5.Ok := by
 refine ⟨?_, ?_, ?_, ?_, ?_, ?_, ?_, ?_, ?_, ?_, ?_⟩ <;> first | (unfold i64; decide) | (unfold u64; decide) | (unfold u32; decide) | simp [o5, PartD.Ok, WI.Ok]
theorem is_o6 : isOpF o6 = true := by decide +kernel
theorem line_o6 : lineF o6 = [102, 114, 97, 109, 101, 32, 51] := by decide +kernel
theorem ok_o6 : o6.Ok := by
 refine ⟨?_, ?_, ?_, ?_, ?_, ?_, ?_, ?_, ?_, ?_, ?_⟩ <;> first | (unfold i64; decide) | (unfold u64; decide) | (unfold u32; decide) | simp [o6, PartD.Ok, WI.Ok]
theorem not_add : lineF (guessF [97, 100, 100, 32, 49, 32, 50]) ≠ [97, 100, 100, 32, 49, 32, 50] := by decide +kernel
theorem not_zero : isOpF zeroO = false := by decide +kernel
end Tl
namespace Tl
def szOf : Value → Nat
 | .string s => s.size
 | _ => 0
end Tl
theorem infoOpS : (Tryz.prog.info? 32).map (fun i => (i.zero, i.size, i.bytes)) = some (some (.agg #[.int .i64 0, .int .u64 0, .int .i64 0, .slice none 0 0, .int .u32 0, .int .u32 0, .int .i64 0, .int .u64 0, .int .i64 0, .slice none 0 0, .int .i64 0, .string ⟨#[]⟩]), 12, 128) := by kernel_rfl
theorem reads_c (l : List UInt8) (hl : LinesLe 99500 l) (hz : l.length ≤ 100000000) (w : World) (hg : GlobT w) :
 Calls Tryz.prog 21 #[.string (text l)] w fun e w' => (∃ a c, e = .returned (.tuple #[.slice a (readsF l).1.length c, .int .i64 (readsF l).2]) ∧ OwnO w' w.heap.size a c (readsF l).1) ∧ Below w.heap.size w w' := by
 obtain ⟨R, hR⟩ : ∃ R, readsF l = R := ⟨_, rfl⟩
 rw [hR]
 unfold readsF at hR
 obtain ⟨j0, hj, hy0, hy1, hy2⟩ := info_parts infoOpS
 have hl2 := Hd hl
 have hR2 := Hd hR
 clear hl hR
 go_enter Tryz.func21, Tryz.ntmps21
 go_wp2_with fail
 go_loopw [0, 4] (fun t b wr => ∃ (x : List UInt8) (acc : List OpD) (f : Nat), t = .string (text x) ∧ (∃ a c, b = .slice a acc.length c ∧ OwnO wr w.heap.size a c acc) ∧ x.length < f ∧ readF f acc x = R ∧ acc.length ≤ 4096 ∧ LinesLe 99500 x ∧ x.length ≤ 100000000 ∧ Below w.heap.size w wr) (fun t _ _ => szOf t)
 case atStart => exact ⟨l, [], l.length + 1, rfl, ⟨none, 0, rfl, OwnO.nil _ _⟩, Nat.lt_succ_self _, hR2.out, by simp, hl2.out, hz, Below.refl _ _⟩
 case round =>
  clear hl2 hR2 hz
  obtain ⟨x, acc, f, rfl, ⟨a, c, rfl, hown⟩, hf, hR, hal, hl, hz, hb⟩ := hrel
  obtain ⟨f, rfl⟩ : ∃ m, f = m + 1 := ⟨f - 1, by omega⟩
  have hbz := hb.size
  have hgr := hg.on hb
  have e0 := str_empty (text x)
  rw [byts_text] at e0
  rw [readF] at hR
  cases hx : x with
  | nil =>
    rw [hx, if_pos rfl] at hR
    subst hx
    subst hR
    have e1 : ((text []).toList == []) = true := e0
    clear e0
    replace hown := Hd hown
    replace hb := Hd hb
    clear hl hf hz
    go_wp2_with fail
    (try simp only [Exit.inBlock, Exit.then])
    refine bodyPost_ret (by simp [results, Tryz.results21, go_sem]; try rfl) rfl ?_
    exact ⟨⟨a, c, rfl, hown.out⟩, hb.out⟩
  | cons x0 xr =>
    rw [← hx]
    have hxn : x ≠ [] := by rw [hx]; simp
    have e1 : ((text x).toList == []) = false := by rw [e0, hx]; rfl
    clear e0 hx
    rw [if_neg hxn] at hR
    have cS := cutS_c (text x) ⟨#[10]⟩ (by rw [text_size]; omega) wr hgr
    rw [byts_text] at cS
    change Calls _ _ _ _ (fun e w' => e = .returned (.tuple #[.string (text (Lib.cut x [10]).1), .string (text (Lib.cut x [10]).2.1), .bool (Lib.cut x [10]).2.2]) ∧ _) at cS
    rcases cut_cases x with ⟨h10, hc⟩ | ⟨y, z, hxe, hy, hc⟩
    ·rw [hc] at cS hR
     dsimp only at cS hR
     rw [if_pos (.inl rfl)] at hR
     subst hR
     have hsz : x.length ≤ 99500 := by
      have := hl [] x [] (by simp) h10
      exact this
     have cP := fun w' (hg : GlobT w') => parseO_c (text x) (by rw [text_size]; exact hsz) w' hg
     rw [byts_text] at cP
     generalize parseOF x = po at *
     obtain ⟨⟨yK, yE, yC, yP, yA, yN, ycK, ycE, ycC, ycP, yU, yB⟩, er⟩ := po
     unfold opv at cP
     dsimp only at cP
     replace cS := Hd cS
     replace cP := Hd cP
     replace hown := Hd hown
     replace hb := Hd hb
     clear hl hf hz h10 hc hxn
     go_wp2_with fail
     refine cS.out.mono ?_
     rintro e w2 ⟨rfl, hb2⟩
     have hb3 := Hd (below_up hb.out hbz hb2)
     have hg3 := hg.on hb3.out
     have cP3 := Hd (cP.out w2 hg3)
     clear hb2 hb cS cP
     have hb3s := hb3.out.size
     go_wp2_with fail
     refine cP3.out.mono ?_
     rintro e w3 ⟨⟨qa, qc, qb, qd, rfl, hq1, hq2⟩, hb4⟩
     have hb5 := below_up hb3.out hb3s hb4
     have hb6 := Hd (hb5.alloc hb5.size (.cells #[.int .i64 yK, .int .u64 yE, .int .i64 yC, .slice qa yP.length qc, .int .u32 yA, .int .u32 yN, .int .i64 ycK, .int .u64 ycE, .int .i64 ycC, .slice qb ycP.length qd, .int .i64 yU, .string yB] 32))
     clear hb4 hb5 hb3 hq1 hq2 cP3
     go_wp2_with fail
     (try simp only [Exit.inBlock, Exit.then])
     refine bodyPost_ret (by simp [results, Tryz.results21, go_sem]; try rfl) rfl ?_
     exact ⟨⟨none, 0, rfl, OwnO.nil _ _⟩, hb6.out⟩
    ·rw [hc] at cS hR
     dsimp only at cS hR
     have hyl : y.length ≤ 99500 := (LinesLe.head (hxe ▸ hl) hy)
     have hzl : LinesLe 99500 z := by
      have h1 : LinesLe 99500 (10 :: z) := LinesLe.tail (hxe ▸ hl)
      exact LinesLe.tail (x := [10]) h1
     have hxl : x.length = y.length + 1 + z.length := by rw [hxe, List.length_append]; simp only [List.length_cons]; omega
     have cP := fun w' (hg : GlobT w') => parseO_c (text y) (by rw [text_size]; exact hyl) w' hg
     rw [byts_text] at cP
     generalize parseOF y = po at *
     obtain ⟨⟨yK, yE, yC, yP, yA, yN, ycK, ycE, ycC, ycP, yU, yB⟩, er⟩ := po
     unfold opv at cP
     dsimp only at cP hR
     replace cS := Hd cS
     replace cP := Hd cP
     replace hb := Hd hb
     clear hl hc hxn hyl hy hxe
     replace hR := Hd hR
     replace hzl := Hd hzl
     go_wp2_with fail
     refine cS.out.mono ?_
     rintro e w2 ⟨rfl, hb2⟩
     have hb3 := Hd (below_up hb.out hbz hb2)
     have hg3 := hg.on hb3.out
     have cP3 := Hd (cP.out w2 hg3)
     replace hown := Hd (OwnO.below hown hb2)
     clear hb2 hb cS cP
     have hb3s := hb3.out.size
     go_wp2_with fail
     refine cP3.out.mono ?_
     rintro e w3 ⟨⟨qa, qc, qb, qd, rfl, hq1, hq2⟩, hb4⟩
     have hb5 := below_up hb3.out hb3s hb4
     have hbx := below1 w3 (.cells #[.int .i64 yK, .int .u64 yE, .int .i64 yC, .slice qa yP.length qc, .int .u32 yA, .int .u32 yN, .int .i64 ycK, .int .u64 ycE, .int .i64 ycC, .slice qb ycP.length qd, .int .i64 yU, .string yB] 32)
     have hb6 := Hd (hb5.alloc hb5.size (.cells #[.int .i64 yK, .int .u64 yE, .int .i64 yC, .slice qa yP.length qc, .int .u32 yA, .int .u32 yN, .int .i64 ycK, .int .u64 ycE, .int .i64 ycC, .slice qb ycP.length qd, .int .i64 yU, .string yB] 32))
     replace hown := Hd ((OwnO.below hown.out hb4).below hbx)
     have hq1' := Hd ((hq1.mono hb3s).below hbx)
     have hq2' := Hd ((hq2.mono hb3s).below hbx)
     have hpr := IsC.new w3 32 #[.int .i64 yK, .int .u64 yE, .int .i64 yC, .slice qa yP.length qc, .int .u32 yA, .int .u32 yN, .int .i64 ycK, .int .u64 ycE, .int .i64 ycC, .slice qb ycP.length qd, .int .i64 yU, .string yB]
     have hw3 := hb5.size
     clear hb4 hb3 hq1 hq2 cP3 hbx hb5
     by_cases her : er = 0
     ·subst her
      by_cases hlen : acc.length = 4096
      ·have hr := hR.out
       rw [if_neg (by rintro (h | h); exact absurd h (by decide); exact h rfl), if_pos hlen] at hr
       subst hr
       have e2 : ((acc.length : Int) == 4096) = true := by rw [hlen]; rfl
       clear hpr
       go_wp2_with fail
       (try simp only [Exit.inBlock, Exit.then])
       refine bodyPost_ret (by simp [results, Tryz.results21, go_sem]; try rfl) rfl ?_
       exact ⟨⟨none, 0, rfl, OwnO.nil _ _⟩, hb6.out⟩
      ·have hr := hR.out
       rw [if_neg (by rintro (h | h); exact absurd h (by decide); exact h rfl), if_neg hlen] at hr
       replace hr := Hd hr
       have e2 : ((acc.length : Int) == 4096) = false := beq_eq_false_iff_ne.2 (by omega)
       obtain ⟨q, hq, hrow, hold⟩ := hown.out
       obtain ⟨i0, i1, i2, i3, i4, i5, i6, i7, i8, i9, i10, i11⟩ := cells12 hpr
       obtain ⟨W, hW⟩ : ∃ W, w3.alloc (.cells #[.int .i64 yK, .int .u64 yE, .int .i64 yC, .slice qa yP.length qc, .int .u32 yA, .int .u32 yN, .int .i64 ycK, .int .u64 ycE, .int .i64 ycC, .slice qb ycP.length qd, .int .i64 yU, .string yB] 32) = W := ⟨_, rfl⟩
       rw [hW] at hb6 hq1' hq2' hrow hold i0 i1 i2 i3 i4 i5 i6 i7 i8 i9 i10 i11
       have hbr := below1 W (.cells #[.int .i64 yK, .int .u64 yE, .int .i64 yC, .slice qa yP.length qc, .int .u32 yA, .int .u32 yN, .int .i64 ycK, .int .u64 ycE, .int .i64 ycC, .slice qb ycP.length qd, .int .i64 yU, .string yB] 32)
       have hb7 := Hd (hb6.out.alloc hb6.out.size (.cells #[.int .i64 yK, .int .u64 yE, .int .i64 yC, .slice qa yP.length qc, .int .u32 yA, .int .u32 yN, .int .i64 ycK, .int .u64 ycE, .int .i64 ycC, .slice qb ycP.length qd, .int .i64 yU, .string yB] 32))
       have hb7s := hb7.out.size
       have hrow7 := Hd (World.ownsRow.alloc hrow (.cells #[.int .i64 yK, .int .u64 yE, .int .i64 yC, .slice qa yP.length qc, .int .u32 yA, .int .u32 yN, .int .i64 ycK, .int .u64 ycE, .int .i64 ycC, .slice qb ycP.length qd, .int .i64 yU, .string yB] 32))
       have hold7 := Hd (fun y hy => (⟨(hold y hy).1.below hbr, (hold y hy).2.below hbr⟩ : _ ∧ _))
       have hq17 := Hd (hq1'.out.below hbr)
       have hq27 := Hd (hq2'.out.below hbr)
       have hsrc := src_od W ⟨yK, yE, yC, yP, yA, yN, ycK, ycE, ycC, ycP, yU, yB⟩ ((qa, qc), (qb, qd))
       unfold opc at hsrc
       dsimp only at hsrc
       replace hq := Hd hq
       clear hpr hown hrow hold hbr hq1' hq2' hb6
       go_wp2_with (at_builtin; refine wpList_append_own_src _ rfl (.tmp 34) (.tmp 36) 55 55 rfl w.heap.size 32 j0 (.agg #[.int .i64 0, .int .u64 0, .int .i64 0, .slice none 0 0, .int .u32 0, .int .u32 0, .int .i64 0, .int .u64 0, .int .i64 0, .slice none 0 0, .int .i64 0, .string ⟨#[]⟩]) 12 128 Tryz.underlying55 hj hy0 hy1 hy2 rfl rfl hrow7.out rfl hsrc ?_ ?_ ?_ ?_)
       ·unfold maxLen; omega
       ·omega
       ·exact hb7s
       intro b'' c'' w6 hown6 hg6
       have hlt6 := World.ownsRow.lt hrow7.out
       have hfin := Hd (Below.grown hb7.out hg6 hb7s (fun q hq => (hlt6 q hq).1))
       have hO6 := Hd (OwnO.more hq.out ⟨yK, yE, yC, yP, yA, yN, ycK, ycE, ycC, ycP, yU, yB⟩ ((qa, qc), (qb, qd)) hrow7.out hold7.out hq17.out hq27.out hg6 hown6)
       clear hown6 hg6 hlt6 hsrc hrow7 hb7 hold7 hq17 hq27 i0 i1 i2 i3 i4 i5 i6 i7 i8 i9 i10 i11
       replace hW := Hd hW
       go_wp2_with fail
       go_roundw
       case rel => exact ⟨z, acc ++ [⟨yK, yE, yC, yP, yA, yN, ycK, ycE, ycC, ycP, yU, yB⟩], f, rfl, ⟨b'', c'', by rw [List.length_append]; rfl, hO6.out⟩, by omega, hr.out, by rw [List.length_append]; simp only [List.length_cons, List.length_nil]; omega, hzl.out, by omega, hfin.out⟩
       case measure => simp [szOf, text_size]; omega
     ·have hr := hR.out
      rw [if_pos (.inr her)] at hr
      subst hr
      have e2 : (er != 0) = true := bne_iff_ne.2 her
      clear hpr
      go_wp2_with fail
      (try simp only [Exit.inBlock, Exit.then])
      refine bodyPost_ret (by simp [results, Tryz.results21, go_sem]; try rfl) rfl ?_
      exact ⟨⟨none, 0, rfl, OwnO.nil _ _⟩, hb6.out⟩
namespace Tl
theorem p_1 : parseOF [97, 100, 100, 32, 49, 32, 50, 32, 51, 61, 45, 55] = (o1, 0) := by rw [← line_o1]; exact parse_back o1 ok_o1 is_o1
theorem p_2 : parseOF [97, 100, 100, 32, 49, 32, 50] = (zeroO, 4) := by unfold parseOF; rw [if_pos (.inr not_add)]
theorem p_3 : parseOF [100, 101, 102, 101, 114, 32, 114, 101, 109, 111, 118, 101, 32, 49, 32, 49, 32, 52] = (o2, 0) := by rw [← line_o2]; exact parse_back o2 ok_o2 is_o2
theorem p_4 : textsF [o3, o4] = ([98, 101, 103, 105, 110, 32, 48, 102, 10, 97, 98, 111, 114, 116, 10], 0) := by
 unfold textsF flatF
 simp [line_o3, line_o4]
theorem p_5 : readsF [115, 112, 97, 119, 110, 10, 102, 114, 97, 109, 101, 32, 51, 10] = ([o5, o6], 0) := by
 have h : flatF [o5, o6] = [115, 112, 97, 119, 110, 10, 102, 114, 97, 109, 101, 32, 51, 10] := by
  unfold flatF
  simp [line_o5, line_o6]
 rw [← h]
 exact reads_back [o5, o6] (by
  intro o ho
  simp at ho
  rcases ho with rfl | rfl
  ·exact ⟨ok_o5, is_o5⟩
  ·exact ⟨ok_o6, is_o6⟩) (by decide)
theorem p_6 : readsF [115, 112, 97, 119, 110] = ([], 4) := by
 unfold readsF
 rw [show ([115, 112, 97, 119, 110] : List UInt8).length + 1 = 5 + 1 from rfl, readF, if_neg (by simp), cut_no _ 10 (by decide), if_pos (.inl rfl)]
theorem mk7 : mk (-7) = ⟨true, 0, 7⟩ := by decide
end Tl
theorem par_1 (w : World) (hg : GlobT w) : Calls Tryz.prog 13 #[.string ⟨#[97, 100, 100, 32, 49, 32, 50, 32, 51, 61, 45, 55]⟩] w fun e w' => (∃ xa xc xb xd, e = .returned (.tuple #[.agg #[.int .i64 3, .int .u64 8589934593, .int .i64 0, .slice xa 1 xc, .int .u32 0, .int .u32 0, .int .i64 0, .int .u64 0, .int .i64 0, .slice xb 0 xd, .int .i64 0, .string ⟨#[]⟩], .int .i64 0])) ∧ Below w.heap.size w w' := by
 have c := parseO_c ⟨#[97, 100, 100, 32, 49, 32, 50, 32, 51, 61, 45, 55]⟩ (by decide) w hg
 rw [show byts ⟨#[97, 100, 100, 32, 49, 32, 50, 32, 51, 61, 45, 55]⟩ = [97, 100, 100, 32, 49, 32, 50, 32, 51, 61, 45, 55] from rfl, p_1] at c
 refine c.mono ?_
 rintro e w' ⟨⟨a, c, b, d, h0, h1, h2⟩, hb⟩
 exact ⟨⟨a, c, b, d, h0⟩, hb⟩
theorem par_2 (w : World) (hg : GlobT w) : Calls Tryz.prog 13 #[.string ⟨#[97, 100, 100, 32, 49, 32, 50]⟩] w fun e w' => (∃ ya yc yb yd, e = .returned (.tuple #[.agg #[.int .i64 0, .int .u64 0, .int .i64 0, .slice ya 0 yc, .int .u32 0, .int .u32 0, .int .i64 0, .int .u64 0, .int .i64 0, .slice yb 0 yd, .int .i64 0, .string ⟨#[]⟩], .int .i64 4])) ∧ Below w.heap.size w w' := by
 have c := parseO_c ⟨#[97, 100, 100, 32, 49, 32, 50]⟩ (by decide) w hg
 rw [show byts ⟨#[97, 100, 100, 32, 49, 32, 50]⟩ = [97, 100, 100, 32, 49, 32, 50] from rfl, p_2] at c
 refine c.mono ?_
 rintro e w' ⟨⟨a, c, b, d, h0, h1, h2⟩, hb⟩
 exact ⟨⟨a, c, b, d, h0⟩, hb⟩
theorem par_3 (w : World) (hg : GlobT w) : Calls Tryz.prog 13 #[.string ⟨#[100, 101, 102, 101, 114, 32, 114, 101, 109, 111, 118, 101, 32, 49, 32, 49, 32, 52]⟩] w fun e w' => (∃ za zc zb zd, e = .returned (.tuple #[.agg #[.int .i64 8, .int .u64 0, .int .i64 0, .slice za 0 zc, .int .u32 0, .int .u32 0, .int .i64 5, .int .u64 4294967297, .int .i64 4, .slice zb 0 zd, .int .i64 0, .string ⟨#[]⟩], .int .i64 0])) ∧ Below w.heap.size w w' := by
 have c := parseO_c ⟨#[100, 101, 102, 101, 114, 32, 114, 101, 109, 111, 118, 101, 32, 49, 32, 49, 32, 52]⟩ (by decide) w hg
 rw [show byts ⟨#[100, 101, 102, 101, 114, 32, 114, 101, 109, 111, 118, 101, 32, 49, 32, 49, 32, 52]⟩ = [100, 101, 102, 101, 114, 32, 114, 101, 109, 111, 118, 101, 32, 49, 32, 49, 32, 52] from rfl, p_3] at c
 refine c.mono ?_
 rintro e w' ⟨⟨a, c, b, d, h0, h1, h2⟩, hb⟩
 exact ⟨⟨a, c, b, d, h0⟩, hb⟩
theorem tell_4 (w : World) (hg : GlobT w) : Calls Tryz.prog 20 #[.slice (some ⟨w.heap.size, 0, none⟩) 2 2] (w.alloc (.cells #[.int .i64 10, .int .u64 0, .int .i64 0, .slice none 0 0, .int .u32 0, .int .u32 0, .int .i64 0, .int .u64 0, .int .i64 0, .slice none 0 0, .int .i64 0, .string ⟨#[15]⟩, .int .i64 11, .int .u64 0, .int .i64 0, .slice none 0 0, .int .u32 0, .int .u32 0, .int .i64 0, .int .u64 0, .int .i64 0, .slice none 0 0, .int .i64 0, .string ⟨#[]⟩] 32)) fun e w' => e = .returned (.tuple #[.string ⟨#[98, 101, 103, 105, 110, 32, 48, 102, 10, 97, 98, 111, 114, 116, 10]⟩, .int .i64 0]) ∧ Below (w.heap.size + 1) (w.alloc (.cells #[.int .i64 10, .int .u64 0, .int .i64 0, .slice none 0 0, .int .u32 0, .int .u32 0, .int .i64 0, .int .u64 0, .int .i64 0, .slice none 0 0, .int .i64 0, .string ⟨#[15]⟩, .int .i64 11, .int .u64 0, .int .i64 0, .slice none 0 0, .int .u32 0, .int .u32 0, .int .i64 0, .int .u64 0, .int .i64 0, .slice none 0 0, .int .i64 0, .string ⟨#[]⟩] 32)) w' := by
 have hI := IsC.new w 32 #[.int .i64 10, .int .u64 0, .int .i64 0, .slice none 0 0, .int .u32 0, .int .u32 0, .int .i64 0, .int .u64 0, .int .i64 0, .slice none 0 0, .int .i64 0, .string ⟨#[15]⟩, .int .i64 11, .int .u64 0, .int .i64 0, .slice none 0 0, .int .u32 0, .int .u32 0, .int .i64 0, .int .u64 0, .int .i64 0, .slice none 0 0, .int .i64 0, .string ⟨#[]⟩]
 have hin : InOps (w.alloc (.cells #[.int .i64 10, .int .u64 0, .int .i64 0, .slice none 0 0, .int .u32 0, .int .u32 0, .int .i64 0, .int .u64 0, .int .i64 0, .slice none 0 0, .int .i64 0, .string ⟨#[15]⟩, .int .i64 11, .int .u64 0, .int .i64 0, .slice none 0 0, .int .u32 0, .int .u32 0, .int .i64 0, .int .u64 0, .int .i64 0, .slice none 0 0, .int .i64 0, .string ⟨#[]⟩] 32)) (.slice (some ⟨w.heap.size, 0, none⟩) 2 2) [o3, o4] := by
  refine ⟨_, 2, rfl, .inr ⟨w.heap.size, 0, rfl, hI.lt, fun j hj => ?_⟩⟩
  match j, hj with
  | 0, _ =>
    refine ⟨.slice none 0 0, .slice none 0 0, fun i u hu => ?_, InS.nil _ _ _, InS.nil _ _ _⟩
    have hi : i < 12 := by
     rcases Nat.lt_or_ge i 12 with h | h
     ·exact h
     ·rw [Array.getElem?_eq_none (by show 12 ≤ i; exact h)] at hu; cases hu
    rw [hI.cell, ← hu]
    match i, hi with
    | 0, _ => rfl
    | 1, _ => rfl
    | 2, _ => rfl
    | 3, _ => rfl
    | 4, _ => rfl
    | 5, _ => rfl
    | 6, _ => rfl
    | 7, _ => rfl
    | 8, _ => rfl
    | 9, _ => rfl
    | 10, _ => rfl
    | 11, _ => rfl
  | 1, _ =>
    refine ⟨.slice none 0 0, .slice none 0 0, fun i u hu => ?_, InS.nil _ _ _, InS.nil _ _ _⟩
    have hi : i < 12 := by
     rcases Nat.lt_or_ge i 12 with h | h
     ·exact h
     ·rw [Array.getElem?_eq_none (by show 12 ≤ i; exact h)] at hu; cases hu
    rw [hI.cell, ← hu]
    match i, hi with
    | 0, _ => rfl
    | 1, _ => rfl
    | 2, _ => rfl
    | 3, _ => rfl
    | 4, _ => rfl
    | 5, _ => rfl
    | 6, _ => rfl
    | 7, _ => rfl
    | 8, _ => rfl
    | 9, _ => rfl
    | 10, _ => rfl
    | 11, _ => rfl
 have c := tells_c [o3, o4] (by decide) (by
  intro o ho
  simp at ho
  rcases ho with rfl | rfl
  ·exact ⟨ok_o3, small_nil, by simp [o3], small_nil, by simp [o3], by unfold maxLen; decide⟩
  ·exact ⟨ok_o4, small_nil, by simp [o4], small_nil, by simp [o4], by unfold maxLen; decide⟩) _ _ hin (hg.on (below1 w _))
 rw [p_4, size_alloc] at c
 exact c
theorem read_5 (w : World) (hg : GlobT w) : Calls Tryz.prog 21 #[.string ⟨#[115, 112, 97, 119, 110, 10, 102, 114, 97, 109, 101, 32, 51, 10]⟩] w fun e w' => (∃ g c, e = .returned (.tuple #[.slice (some ⟨g, 0, none⟩) 2 c, .int .i64 0]) ∧ g < w'.heap.size ∧ w'.cell? ⟨g, 22, none⟩ = some (.int .i64 3)) ∧ Below w.heap.size w w' := by
 have c := reads_c [115, 112, 97, 119, 110, 10, 102, 114, 97, 109, 101, 32, 51, 10] (LinesLe.short (by decide)) (by decide) w hg
 rw [p_5] at c
 refine Calls.mono c ?_
 rintro e w' ⟨⟨a, c, rfl, hO⟩, hb⟩
 refine ⟨?_, hb⟩
 obtain ⟨q, hq, hrow, _⟩ := id hO
 rcases hrow.2 with ⟨_, hn⟩ | ⟨g, cap, cur, hv, _, hg, hc⟩
 ·exact absurd hn (by decide)
 ·obtain ⟨rfl, rfl⟩ : a = some ⟨g, 0, none⟩ ∧ c = cap := by cases hv; exact ⟨rfl, rfl⟩
  obtain ⟨g', o', s', t', e', hlt, _, _, _, _, _, _, _, _, _, _, _, h10, _⟩ := (OwnO.in hO).at 1 (by decide)
  cases e'
  exact ⟨g, c, rfl, hlt, h10⟩
theorem read_6 (w : World) (hg : GlobT w) : Calls Tryz.prog 21 #[.string ⟨#[115, 112, 97, 119, 110]⟩] w fun e w' => (∃ a c, e = .returned (.tuple #[.slice a 0 c, .int .i64 4])) ∧ Below w.heap.size w w' := by
 have c := reads_c [115, 112, 97, 119, 110] (LinesLe.short (by decide)) (by decide) w hg
 rw [p_6] at c
 refine Calls.mono c ?_
 rintro e w' ⟨⟨a, c, rfl, _⟩, hb⟩
 exact ⟨⟨a, c, rfl⟩, hb⟩
theorem line_1 (w w' : World) (hg : GlobT w') (g : Nat) (h1 : IsC w' g 61 #[.bool true, .int .u64 0, .int .u64 7]) (h2 : IsC w' (g + 1) 65 #[.int .i64 3, .slice (some ⟨g, 0, none⟩) 1 1]) :
 Calls Tryz.prog 11 #[.agg #[.int .i64 3, .int .u64 8589934593, .int .i64 0, .slice (some ⟨g + 1, 0, none⟩) 1 1, .int .u32 0, .int .u32 0, .int .i64 0, .int .u64 0, .int .i64 0, .slice none 0 0, .int .i64 0, .string ⟨#[]⟩]] w' fun e w2 => e = .returned (.string ⟨#[97, 100, 100, 32, 49, 32, 50, 32, 51, 61, 45, 55]⟩) ∧ Below w'.heap.size w' w2 := by
 have hin : OpIn w' o1 (.slice (some ⟨g + 1, 0, none⟩) 1 1) (.slice none 0 0) := by
  refine ⟨⟨_, 1, rfl, .inr ⟨g + 1, 0, rfl, h2.lt, fun j hj => ?_⟩⟩, InS.nil _ _ _⟩
  match j, hj with
  | 0, _ =>
    refine ⟨h2.cell 0, _, h2.cell 1, _, 1, rfl, .inr ⟨g, 0, rfl, h1.lt, fun i hi => ?_⟩⟩
    match i, hi with
    | 0, _ => exact ⟨h1.cell 0, h1.cell 1, h1.cell 2⟩
 have c := line_c o1 ⟨ok_o1, ⟨by decide, by intro p hp; simp [o1] at hp; subst hp; exact ⟨⟨by decide, by decide, by intro x hx; simp at hx; subst hx; simp [WI.Ok]⟩, by decide⟩⟩, by decide, small_nil, by decide, by unfold maxLen; decide⟩ _ _ w' hin hg
 rw [line_o1] at c
 exact c
theorem is_0 (w : World) : Calls Tryz.prog 9 #[.agg #[.int .i64 0, .int .u64 0, .int .i64 0, .slice none 0 0, .int .u32 0, .int .u32 0, .int .i64 0, .int .u64 0, .int .i64 0, .slice none 0 0, .int .i64 0, .string ⟨#[]⟩]] w fun e w2 => e = .returned (.bool false) ∧ Below w.heap.size w w2 := by
 have c := isOp_c zeroO ⟨?_, small_nil, by decide, small_nil, by decide, by unfold maxLen; decide⟩ (.slice none 0 0) (.slice none 0 0) w ⟨InS.nil _ _ _, InS.nil _ _ _⟩
 ·rw [not_zero] at c
  exact c
 ·refine ⟨?_, ?_, ?_, ?_, ?_, ?_, ?_, ?_, ?_, ?_, ?_⟩ <;> first | (unfold i64; decide) | (unfold u64; decide) | (unfold u32; decide) | simp [zeroO]
theorem awakeT_c (w : World) (hg : GlobT w) : Calls Tryz.prog 6 #[] w fun e w' => e = .returned (.bool true) ∧ Below w.heap.size w w' := by
 have c0 := wof_c (-7) (by decide) (by decide) w
 rw [mk7] at c0
 unfold wv at c0
 dsimp only at c0
 replace c0 := Hd c0
 go_enter Tryz.func6, Tryz.ntmps6
 go_wp2_with fail
 refine c0.out.mono ?_
 rintro e w1 ⟨rfl, hb1⟩
 have hA := ((IsC.new w1 61 #[.bool true, .int .u64 0, .int .u64 7]).alloc (.cells #[.int .i64 3, .slice (some ⟨w1.heap.size, 0, none⟩) 1 1] 65)).alloc (.cells #[.int .i64 3, .int .u64 8589934593, .int .i64 0, .slice (some ⟨w1.heap.size + 1, 0, none⟩) 1 1, .int .u32 0, .int .u32 0, .int .i64 0, .int .u64 0, .int .i64 0, .slice none 0 0, .int .i64 0, .string ⟨#[]⟩] 32)
 have hP := (IsC.new (w1.alloc (.cells #[.bool true, .int .u64 0, .int .u64 7] 61)) 65 #[.int .i64 3, .slice (some ⟨w1.heap.size, 0, none⟩) 1 1]).alloc (.cells #[.int .i64 3, .int .u64 8589934593, .int .i64 0, .slice (some ⟨w1.heap.size + 1, 0, none⟩) 1 1, .int .u32 0, .int .u32 0, .int .i64 0, .int .u64 0, .int .i64 0, .slice none 0 0, .int .i64 0, .string ⟨#[]⟩] 32)
 have hO := IsC.new ((w1.alloc (.cells #[.bool true, .int .u64 0, .int .u64 7] 61)).alloc (.cells #[.int .i64 3, .slice (some ⟨w1.heap.size, 0, none⟩) 1 1] 65)) 32 #[.int .i64 3, .int .u64 8589934593, .int .i64 0, .slice (some ⟨w1.heap.size + 1, 0, none⟩) 1 1, .int .u32 0, .int .u32 0, .int .i64 0, .int .u64 0, .int .i64 0, .slice none 0 0, .int .i64 0, .string ⟨#[]⟩]
 rw [size_alloc] at hP
 rw [size_alloc, size_alloc] at hO
 have hb := ((hb1.alloc hb1.size (.cells #[.bool true, .int .u64 0, .int .u64 7] 61)).alloc (hb1.alloc hb1.size (.cells #[.bool true, .int .u64 0, .int .u64 7] 61)).size (.cells #[.int .i64 3, .slice (some ⟨w1.heap.size, 0, none⟩) 1 1] 65)).alloc ((hb1.alloc hb1.size (.cells #[.bool true, .int .u64 0, .int .u64 7] 61)).alloc (hb1.alloc hb1.size (.cells #[.bool true, .int .u64 0, .int .u64 7] 61)).size (.cells #[.int .i64 3, .slice (some ⟨w1.heap.size, 0, none⟩) 1 1] 65)).size (.cells #[.int .i64 3, .int .u64 8589934593, .int .i64 0, .slice (some ⟨w1.heap.size + 1, 0, none⟩) 1 1, .int .u32 0, .int .u32 0, .int .i64 0, .int .u64 0, .int .i64 0, .slice none 0 0, .int .i64 0, .string ⟨#[]⟩] 32)
 obtain ⟨V1, hV1⟩ : ∃ V1, w1.alloc (.cells #[.bool true, .int .u64 0, .int .u64 7] 61) = V1 := ⟨_, rfl⟩
 have sV1 : V1.heap.size = w1.heap.size + 1 := by rw [← hV1, size_alloc]
 rw [hV1] at hA hP hO hb
 obtain ⟨V2, hV2⟩ : ∃ V2, V1.alloc (.cells #[.int .i64 3, .slice (some ⟨w1.heap.size, 0, none⟩) 1 1] 65) = V2 := ⟨_, rfl⟩
 have sV2 : V2.heap.size = w1.heap.size + 2 := by rw [← hV2, size_alloc, sV1]
 rw [hV2] at hA hP hO hb
 obtain ⟨W, hW⟩ : ∃ W, V2.alloc (.cells #[.int .i64 3, .int .u64 8589934593, .int .i64 0, .slice (some ⟨w1.heap.size + 1, 0, none⟩) 1 1, .int .u32 0, .int .u32 0, .int .i64 0, .int .u64 0, .int .i64 0, .slice none 0 0, .int .i64 0, .string ⟨#[]⟩] 32) = W := ⟨_, rfl⟩
 rw [hW] at hA hP hO hb
 clear hb1 c0
 have c1 := par_1 W (hg.on hb)
 rw [← hW] at c1
 replace c1 := Hd c1
 replace hW := Hd hW
 replace hA := Hd hA
 replace hP := Hd hP
 replace hO := Hd hO
 have hbz := hb.size
 replace hb := Hd hb
 go_wp2_with fail
 refine c1.out.mono ?_
 rintro e w2 ⟨⟨xa, xc, xb, xd, rfl⟩, hb2⟩
 rw [hW.out] at hb2
 replace hA := Hd ((isC_of hb2 hA.out).alloc (.cells #[.int .i64 3, .int .u64 8589934593, .int .i64 0, .slice xa 1 xc, .int .u32 0, .int .u32 0, .int .i64 0, .int .u64 0, .int .i64 0, .slice xb 0 xd, .int .i64 0, .string ⟨#[]⟩] 32))
 replace hP := Hd ((isC_of hb2 hP.out).alloc (.cells #[.int .i64 3, .int .u64 8589934593, .int .i64 0, .slice xa 1 xc, .int .u32 0, .int .u32 0, .int .i64 0, .int .u64 0, .int .i64 0, .slice xb 0 xd, .int .i64 0, .string ⟨#[]⟩] 32))
 replace hO := Hd ((isC_of hb2 hO.out).alloc (.cells #[.int .i64 3, .int .u64 8589934593, .int .i64 0, .slice xa 1 xc, .int .u32 0, .int .u32 0, .int .i64 0, .int .u64 0, .int .i64 0, .slice xb 0 xd, .int .i64 0, .string ⟨#[]⟩] 32))
 have hX := Hd (IsC.new w2 32 #[.int .i64 3, .int .u64 8589934593, .int .i64 0, .slice xa 1 xc, .int .u32 0, .int .u32 0, .int .i64 0, .int .u64 0, .int .i64 0, .slice xb 0 xd, .int .i64 0, .string ⟨#[]⟩])
 have hb3 := below_up hb.out hbz hb2
 have hb4 := hb3.alloc hb3.size (.cells #[.int .i64 3, .int .u64 8589934593, .int .i64 0, .slice xa 1 xc, .int .u32 0, .int .u32 0, .int .i64 0, .int .u64 0, .int .i64 0, .slice xb 0 xd, .int .i64 0, .string ⟨#[]⟩] 32)
 have c2 := Hd (par_2 _ (hg.on hb4))
 have hbz4 := hb4.size
 replace hb4 := Hd hb4
 clear hb2 hb3 hb hbz c1
 clear hV1 hV2 sV1 sV2
 go_wp2_with fail
 refine c2.out.mono ?_
 rintro e w3 ⟨⟨ya, yc, yb, yd, rfl⟩, hb5⟩
 replace hA := Hd ((isC_of hb5 hA.out).alloc (.cells #[.int .i64 0, .int .u64 0, .int .i64 0, .slice ya 0 yc, .int .u32 0, .int .u32 0, .int .i64 0, .int .u64 0, .int .i64 0, .slice yb 0 yd, .int .i64 0, .string ⟨#[]⟩] 32))
 replace hP := Hd ((isC_of hb5 hP.out).alloc (.cells #[.int .i64 0, .int .u64 0, .int .i64 0, .slice ya 0 yc, .int .u32 0, .int .u32 0, .int .i64 0, .int .u64 0, .int .i64 0, .slice yb 0 yd, .int .i64 0, .string ⟨#[]⟩] 32))
 replace hO := Hd ((isC_of hb5 hO.out).alloc (.cells #[.int .i64 0, .int .u64 0, .int .i64 0, .slice ya 0 yc, .int .u32 0, .int .u32 0, .int .i64 0, .int .u64 0, .int .i64 0, .slice yb 0 yd, .int .i64 0, .string ⟨#[]⟩] 32))
 replace hX := Hd ((isC_of hb5 hX.out).alloc (.cells #[.int .i64 0, .int .u64 0, .int .i64 0, .slice ya 0 yc, .int .u32 0, .int .u32 0, .int .i64 0, .int .u64 0, .int .i64 0, .slice yb 0 yd, .int .i64 0, .string ⟨#[]⟩] 32))
 have hb6 := below_up hb4.out hbz4 hb5
 have hb7 := hb6.alloc hb6.size (.cells #[.int .i64 0, .int .u64 0, .int .i64 0, .slice ya 0 yc, .int .u32 0, .int .u32 0, .int .i64 0, .int .u64 0, .int .i64 0, .slice yb 0 yd, .int .i64 0, .string ⟨#[]⟩] 32)
 have c3 := Hd (par_3 _ (hg.on hb7))
 have hbz7 := hb7.size
 replace hb7 := Hd hb7
 clear hb5 hb6 hb4 hbz4 c2
 go_wp2_with fail
 refine c3.out.mono ?_
 rintro e w4 ⟨⟨za, zc, zb, zd, rfl⟩, hb8⟩
 replace hA := Hd ((isC_of hb8 hA.out).alloc (.cells #[.int .i64 8, .int .u64 0, .int .i64 0, .slice za 0 zc, .int .u32 0, .int .u32 0, .int .i64 5, .int .u64 4294967297, .int .i64 4, .slice zb 0 zd, .int .i64 0, .string ⟨#[]⟩] 32))
 replace hP := Hd ((isC_of hb8 hP.out).alloc (.cells #[.int .i64 8, .int .u64 0, .int .i64 0, .slice za 0 zc, .int .u32 0, .int .u32 0, .int .i64 5, .int .u64 4294967297, .int .i64 4, .slice zb 0 zd, .int .i64 0, .string ⟨#[]⟩] 32))
 replace hO := Hd ((isC_of hb8 hO.out).alloc (.cells #[.int .i64 8, .int .u64 0, .int .i64 0, .slice za 0 zc, .int .u32 0, .int .u32 0, .int .i64 5, .int .u64 4294967297, .int .i64 4, .slice zb 0 zd, .int .i64 0, .string ⟨#[]⟩] 32))
 replace hX := Hd ((isC_of hb8 hX.out).alloc (.cells #[.int .i64 8, .int .u64 0, .int .i64 0, .slice za 0 zc, .int .u32 0, .int .u32 0, .int .i64 5, .int .u64 4294967297, .int .i64 4, .slice zb 0 zd, .int .i64 0, .string ⟨#[]⟩] 32))
 have hY := Hd (IsC.new w4 32 #[.int .i64 8, .int .u64 0, .int .i64 0, .slice za 0 zc, .int .u32 0, .int .u32 0, .int .i64 5, .int .u64 4294967297, .int .i64 4, .slice zb 0 zd, .int .i64 0, .string ⟨#[]⟩])
 have hb9 := below_up hb7.out hbz7 hb8
 have hb10 := hb9.alloc hb9.size (.cells #[.int .i64 8, .int .u64 0, .int .i64 0, .slice za 0 zc, .int .u32 0, .int .u32 0, .int .i64 5, .int .u64 4294967297, .int .i64 4, .slice zb 0 zd, .int .i64 0, .string ⟨#[]⟩] 32)
 obtain ⟨V, hV⟩ : ∃ V, w4.alloc (.cells #[.int .i64 8, .int .u64 0, .int .i64 0, .slice za 0 zc, .int .u32 0, .int .u32 0, .int .i64 5, .int .u64 4294967297, .int .i64 4, .slice zb 0 zd, .int .i64 0, .string ⟨#[]⟩] 32) = V := ⟨_, rfl⟩
 have hV' := hV
 replace hV := Hd hV
 rw [hV'] at hb10
 replace hA := Hd (hV' ▸ hA.out)
 replace hP := Hd (hV' ▸ hP.out)
 replace hO := Hd (hV' ▸ hO.out)
 replace hX := Hd (hV' ▸ hX.out)
 replace hY := Hd (hV' ▸ hY.out)
 have sV : V.heap.size = w4.heap.size + 1 := by rw [← hV', size_alloc]
 have c4 := tell_4 V (hg.on hb10)
 rw [sV, ← hV'] at c4
 replace c4 := Hd c4
 replace sV := Hd sV
 clear hV'
 have hb11 := hb10.alloc hb10.size (.cells #[.int .i64 10, .int .u64 0, .int .i64 0, .slice none 0 0, .int .u32 0, .int .u32 0, .int .i64 0, .int .u64 0, .int .i64 0, .slice none 0 0, .int .i64 0, .string ⟨#[15]⟩, .int .i64 11, .int .u64 0, .int .i64 0, .slice none 0 0, .int .u32 0, .int .u32 0, .int .i64 0, .int .u64 0, .int .i64 0, .slice none 0 0, .int .i64 0, .string ⟨#[]⟩] 32)
 have hbz11 := hb11.size
 replace hb11 := Hd hb11
 clear hb8 hb9 hb10 hb7 hbz7 c3
 go_wp2_with fail
 refine c4.out.mono ?_
 rintro e w5 ⟨rfl, hb12⟩
 rw [hV.out, ← sV.out] at hb12
 replace hA := Hd (isC_of (show Below (V.alloc (.cells #[.int .i64 10, .int .u64 0, .int .i64 0, .slice none 0 0, .int .u32 0, .int .u32 0, .int .i64 0, .int .u64 0, .int .i64 0, .slice none 0 0, .int .i64 0, .string ⟨#[15]⟩, .int .i64 11, .int .u64 0, .int .i64 0, .slice none 0 0, .int .u32 0, .int .u32 0, .int .i64 0, .int .u64 0, .int .i64 0, .slice none 0 0, .int .i64 0, .string ⟨#[]⟩] 32)).heap.size _ _ by rw [size_alloc]; exact hb12) (hA.out.alloc (.cells #[.int .i64 10, .int .u64 0, .int .i64 0, .slice none 0 0, .int .u32 0, .int .u32 0, .int .i64 0, .int .u64 0, .int .i64 0, .slice none 0 0, .int .i64 0, .string ⟨#[15]⟩, .int .i64 11, .int .u64 0, .int .i64 0, .slice none 0 0, .int .u32 0, .int .u32 0, .int .i64 0, .int .u64 0, .int .i64 0, .slice none 0 0, .int .i64 0, .string ⟨#[]⟩] 32)))
 replace hP := Hd (isC_of (show Below (V.alloc (.cells #[.int .i64 10, .int .u64 0, .int .i64 0, .slice none 0 0, .int .u32 0, .int .u32 0, .int .i64 0, .int .u64 0, .int .i64 0, .slice none 0 0, .int .i64 0, .string ⟨#[15]⟩, .int .i64 11, .int .u64 0, .int .i64 0, .slice none 0 0, .int .u32 0, .int .u32 0, .int .i64 0, .int .u64 0, .int .i64 0, .slice none 0 0, .int .i64 0, .string ⟨#[]⟩] 32)).heap.size _ _ by rw [size_alloc]; exact hb12) (hP.out.alloc (.cells #[.int .i64 10, .int .u64 0, .int .i64 0, .slice none 0 0, .int .u32 0, .int .u32 0, .int .i64 0, .int .u64 0, .int .i64 0, .slice none 0 0, .int .i64 0, .string ⟨#[15]⟩, .int .i64 11, .int .u64 0, .int .i64 0, .slice none 0 0, .int .u32 0, .int .u32 0, .int .i64 0, .int .u64 0, .int .i64 0, .slice none 0 0, .int .i64 0, .string ⟨#[]⟩] 32)))
 replace hO := Hd (isC_of (show Below (V.alloc (.cells #[.int .i64 10, .int .u64 0, .int .i64 0, .slice none 0 0, .int .u32 0, .int .u32 0, .int .i64 0, .int .u64 0, .int .i64 0, .slice none 0 0, .int .i64 0, .string ⟨#[15]⟩, .int .i64 11, .int .u64 0, .int .i64 0, .slice none 0 0, .int .u32 0, .int .u32 0, .int .i64 0, .int .u64 0, .int .i64 0, .slice none 0 0, .int .i64 0, .string ⟨#[]⟩] 32)).heap.size _ _ by rw [size_alloc]; exact hb12) (hO.out.alloc (.cells #[.int .i64 10, .int .u64 0, .int .i64 0, .slice none 0 0, .int .u32 0, .int .u32 0, .int .i64 0, .int .u64 0, .int .i64 0, .slice none 0 0, .int .i64 0, .string ⟨#[15]⟩, .int .i64 11, .int .u64 0, .int .i64 0, .slice none 0 0, .int .u32 0, .int .u32 0, .int .i64 0, .int .u64 0, .int .i64 0, .slice none 0 0, .int .i64 0, .string ⟨#[]⟩] 32)))
 replace hX := Hd (isC_of (show Below (V.alloc (.cells #[.int .i64 10, .int .u64 0, .int .i64 0, .slice none 0 0, .int .u32 0, .int .u32 0, .int .i64 0, .int .u64 0, .int .i64 0, .slice none 0 0, .int .i64 0, .string ⟨#[15]⟩, .int .i64 11, .int .u64 0, .int .i64 0, .slice none 0 0, .int .u32 0, .int .u32 0, .int .i64 0, .int .u64 0, .int .i64 0, .slice none 0 0, .int .i64 0, .string ⟨#[]⟩] 32)).heap.size _ _ by rw [size_alloc]; exact hb12) (hX.out.alloc (.cells #[.int .i64 10, .int .u64 0, .int .i64 0, .slice none 0 0, .int .u32 0, .int .u32 0, .int .i64 0, .int .u64 0, .int .i64 0, .slice none 0 0, .int .i64 0, .string ⟨#[15]⟩, .int .i64 11, .int .u64 0, .int .i64 0, .slice none 0 0, .int .u32 0, .int .u32 0, .int .i64 0, .int .u64 0, .int .i64 0, .slice none 0 0, .int .i64 0, .string ⟨#[]⟩] 32)))
 replace hY := Hd (isC_of (show Below (V.alloc (.cells #[.int .i64 10, .int .u64 0, .int .i64 0, .slice none 0 0, .int .u32 0, .int .u32 0, .int .i64 0, .int .u64 0, .int .i64 0, .slice none 0 0, .int .i64 0, .string ⟨#[15]⟩, .int .i64 11, .int .u64 0, .int .i64 0, .slice none 0 0, .int .u32 0, .int .u32 0, .int .i64 0, .int .u64 0, .int .i64 0, .slice none 0 0, .int .i64 0, .string ⟨#[]⟩] 32)).heap.size _ _ by rw [size_alloc]; exact hb12) (hY.out.alloc (.cells #[.int .i64 10, .int .u64 0, .int .i64 0, .slice none 0 0, .int .u32 0, .int .u32 0, .int .i64 0, .int .u64 0, .int .i64 0, .slice none 0 0, .int .i64 0, .string ⟨#[15]⟩, .int .i64 11, .int .u64 0, .int .i64 0, .slice none 0 0, .int .u32 0, .int .u32 0, .int .i64 0, .int .u64 0, .int .i64 0, .slice none 0 0, .int .i64 0, .string ⟨#[]⟩] 32)))
 have hb13 := Hd (below_up hb11.out hbz11 (show Below (V.alloc (.cells #[.int .i64 10, .int .u64 0, .int .i64 0, .slice none 0 0, .int .u32 0, .int .u32 0, .int .i64 0, .int .u64 0, .int .i64 0, .slice none 0 0, .int .i64 0, .string ⟨#[15]⟩, .int .i64 11, .int .u64 0, .int .i64 0, .slice none 0 0, .int .u32 0, .int .u32 0, .int .i64 0, .int .u64 0, .int .i64 0, .slice none 0 0, .int .i64 0, .string ⟨#[]⟩] 32)).heap.size _ _ by rw [size_alloc]; exact hb12))
 have hbz13 := hb13.out.size
 have c5 := Hd (read_5 w5 (hg.on hb13.out))
 clear hb12 hb11 hbz11 c4
 go_wp2_with fail
 refine c5.out.mono ?_
 rintro e w6 ⟨⟨g, gc, rfl, hgl, hl⟩, hb14⟩
 replace hA := Hd (isC_of hb14 hA.out)
 replace hP := Hd (isC_of hb14 hP.out)
 replace hO := Hd (isC_of hb14 hO.out)
 replace hX := Hd (isC_of hb14 hX.out)
 replace hY := Hd (isC_of hb14 hY.out)
 have hb15 := Hd (below_up hb13.out hbz13 hb14)
 have hbz15 := hb15.out.size
 have c6 := Hd (read_6 w6 (hg.on hb15.out))
 clear hb14 hb13 hbz13 c5
 replace hl := Hd hl
 go_wp2_with fail
 refine c6.out.mono ?_
 rintro e w7 ⟨⟨ra, rc, rfl⟩, hb16⟩
 replace hA := Hd (isC_of hb16 hA.out)
 replace hP := Hd (isC_of hb16 hP.out)
 replace hO := Hd (isC_of hb16 hO.out)
 replace hX := Hd (isC_of hb16 hX.out)
 replace hY := Hd (isC_of hb16 hY.out)
 replace hl := Hd ((hb16.cell (p := ⟨g, 22, none⟩) hgl).trans hl.out)
 have hgl7 := Nat.lt_of_lt_of_le hgl hb16.size
 have hb17 := Hd (below_up hb15.out hbz15 hb16)
 have hbz17 := hb17.out.size
 have c7 := Hd (line_1 w7 w7 (hg.on hb17.out) w1.heap.size hA.out hP.out)
 clear hb16 hb15 hbz15 c6 hgl
 obtain ⟨o0, o1, o2, o3, o4, o5, o6, o7, o8, o9, o10, o11⟩ := cells12 hO.out
 go_wp2_with fail
 refine c7.out.mono ?_
 rintro e w8 ⟨rfl, hb18⟩
 clear o0 o1 o2 o3 o4 o5 o6 o7 o8 o9 o10 o11
 replace hA := Hd (isC_of hb18 hA.out)
 replace hP := Hd (isC_of hb18 hP.out)
 replace hO := Hd (isC_of hb18 hO.out)
 replace hX := Hd (isC_of hb18 hX.out)
 replace hY := Hd (isC_of hb18 hY.out)
 replace hl := (hb18.cell (p := ⟨g, 22, none⟩) hgl7).trans hl.out
 have hb19 := Hd (below_up hb17.out hbz17 hb18)
 have hbz19 := hb19.out.size
 have c8 := Hd (is_0 w8)
 have o1 := hO.out.cell 1
 have x1 := hX.out.cell 1
 have x3 := hX.out.cell 3
 have y6 := hY.out.cell 6
 have y8 := hY.out.cell 8
 clear hb18 hb17 hbz17 c7
 go_wp2_with fail
 refine c8.out.mono ?_
 rintro e w9 ⟨rfl, hb20⟩
 have hb21 := Hd (below_up hb19.out hbz19 hb20)
 clear hb20 hb19 o1 x1 x3 y6 y8 hl
 go_wp2_with fail
 go_ret
 exact ⟨rfl, hb21.out⟩
end Go.Proofs.YtjjgbillihedgaaGreatDoor
