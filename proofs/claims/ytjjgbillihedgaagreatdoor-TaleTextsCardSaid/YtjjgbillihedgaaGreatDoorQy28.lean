/- parts of the proof, merged: TlZ1, TlB0, TlVC -/
import Derived.Test.YtjjgbillihedgaaGreatDoorQy27
set_option linter.unusedSimpArgs false
set_option linter.unusedVariables false
set_option maxHeartbeats 16000000
set_option maxRecDepth 100000
namespace Go.Proofs.YtjjgbillihedgaaGreatDoor
open Go.RowKit
open Rf
open Sg
open Wide
open Tl
namespace Tl
def longP (p : PartD) : Bool := decide (110 < p.V.length)
def greatF (o : OpD) : Bool := decide (30 < o.P.length) || decide (30 < o.cP.length) || decide (16394 < o.B.size) || o.P.any longP || o.cP.any longP
theorem any_take {α : Type} (f : α → Bool) (l : List α) (k : Nat) (h : k < l.length) : (l.take (k + 1)).any f = ((l.take k).any f || f l[k]) := by
 rw [List.take_succ_eq_append_getElem h, List.any_append]
 simp
theorem any_at {α : Type} (f : α → Bool) (l : List α) (k : Nat) (h : k < l.length) (hf : f l[k] = true) : l.any f = true := List.any_eq_true.2 ⟨l[k], List.getElem_mem h, hf⟩
end Tl
theorem great_c (o : OpD) (s t : Value) (w : World) (hin : OpIn w o s t) : Calls Tryz.prog 7 #[opv o s t] w fun e w' => e = .returned (.bool (greatF o)) ∧ Below w.heap.size w w' := by
 obtain ⟨hi1, hi2⟩ := hin
 obtain ⟨a, c, rfl, _⟩ := id hi1
 obtain ⟨b, d, rfl, _⟩ := id hi2
 obtain ⟨R, hR⟩ : ∃ R, greatF o = R := ⟨_, rfl⟩
 rw [hR]
 unfold greatF at hR
 obtain ⟨K, E, C, P, A, N, cK, cE, cC, cP, U, B⟩ := o
 unfold opv
 dsimp only at *
 have hb1 := below1 w (.cells #[.int .i64 K, .int .u64 E, .int .i64 C, .slice a P.length c, .int .u32 A, .int .u32 N, .int .i64 cK, .int .u64 cE, .int .i64 cC, .slice b cP.length d, .int .i64 U, .string B] 32)
 have hbox := IsC.new w 32 #[.int .i64 K, .int .u64 E, .int .i64 C, .slice a P.length c, .int .u32 A, .int .u32 N, .int .i64 cK, .int .u64 cE, .int .i64 cC, .slice b cP.length d, .int .i64 U, .string B]
 have q3 := hbox.cell 3
 have q9 := hbox.cell 9
 have q11 := hbox.cell 11
 have hP := hi1.below hb1
 have hQ := hi2.below hb1
 clear hi1 hi2 hbox
 replace hb1 := Hd hb1
 replace hP := Hd hP
 replace hQ := Hd hQ
 by_cases g1 : 30 < P.length
 ·have g1I : (30 : Int) < (P.length : Int) := by omega
  obtain rfl : true = R := by rw [← hR, decide_eq_true g1]; simp
  clear hR
  go_enter Tryz.func7, Tryz.ntmps7
  go_wp2_with fail
  go_ret
  exact ⟨rfl, hb1.out⟩
 have g1I : ¬ (30 : Int) < (P.length : Int) := by omega
 by_cases g2 : 30 < cP.length
 ·have g2I : (30 : Int) < (cP.length : Int) := by omega
  obtain rfl : true = R := by rw [← hR, decide_eq_true g2]; simp
  clear hR
  go_enter Tryz.func7, Tryz.ntmps7
  go_wp2_with fail
  go_ret
  exact ⟨rfl, hb1.out⟩
 have g2I : ¬ (30 : Int) < (cP.length : Int) := by omega
 by_cases g3 : 16394 < B.size
 ·have g3I : (16394 : Int) < (B.size : Int) := by omega
  obtain rfl : true = R := by rw [← hR, decide_eq_true g3]; simp
  clear hR
  go_enter Tryz.func7, Tryz.ntmps7
  go_wp2_with fail
  go_ret
  exact ⟨rfl, hb1.out⟩
 have g3I : ¬ (16394 : Int) < (B.size : Int) := by omega
 rw [decide_eq_false g1, decide_eq_false g2, decide_eq_false g3, Bool.false_or, Bool.false_or, Bool.false_or] at hR
 have hR2 := Hd hR
 clear hR
 go_enter Tryz.func7, Tryz.ntmps7
 go_wp2_with fail
 obtain ⟨W, hW⟩ : ∃ W, w.alloc (.cells #[.int .i64 K, .int .u64 E, .int .i64 C, .slice a P.length c, .int .u32 A, .int .u32 N, .int .i64 cK, .int .u64 cE, .int .i64 cC, .slice b cP.length d, .int .i64 U, .string B] 32) = W := ⟨_, rfl⟩
 rw [hW] at hb1 hP hQ q3 q9 q11
 rw [hW]
 replace hW := Hd hW
 go_loopw [3] (fun i wr => ∃ k : Nat, k ≤ P.length ∧ i = .int .i64 k ∧ (P.take k).any longP = false ∧ W = wr) (fun i _ => P.length - (intOf i).toNat)
 case atStart => exact ⟨0, Nat.zero_le _, rfl, rfl, rfl⟩
 case round =>
  obtain ⟨k, hk, rfl, hany, rfl⟩ := hrel
  by_cases hlt : k < P.length
  ·obtain ⟨g, o, ts, rfl, hgz, hc0, hc1, hv⟩ := hP.out.at k hlt
   obtain ⟨va, vc, rfl, _⟩ := hv
   have hltI : (k : Int) < (P.length : Int) := by omega
   have hat := any_take longP P k hlt
   have hall := any_at longP P k hlt
   generalize P[k] = x at *
   rw [hany, Bool.false_or] at hat
   by_cases hx : 110 < x.V.length
   ·have hxI : (110 : Int) < (x.V.length : Int) := by omega
    have hr := hR2.out
    rw [hall (decide_eq_true hx), Bool.true_or] at hr
    subst hr
    clear hat hall hany hP hQ
    go_wp2_with fail
    go_ret
    exact ⟨rfl, hb1.out⟩
   ·have hxI : ¬ (110 : Int) < (x.V.length : Int) := by omega
    have hat2 := Hd (hat.trans (decide_eq_false hx))
    clear hat hall hany
    go_wp2_with fail
    go_roundw
    case rel => exact ⟨k + 1, by omega, by go_num, hat2.out, trivial⟩
    case measure => simp [intOf]; omega
  ·obtain rfl : k = P.length := by omega
   rw [List.take_length] at hany
   have hR3 := hR2.out
   rw [hany, Bool.false_or] at hR3
   replace hR3 := Hd hR3
   clear hR2 hany
   go_wp2_with fail
   go_loopw [4] (fun i wr => ∃ k : Nat, k ≤ cP.length ∧ i = .int .i64 k ∧ (cP.take k).any longP = false ∧ W = wr) (fun i _ => cP.length - (intOf i).toNat)
   case atStart => exact ⟨0, Nat.zero_le _, rfl, rfl, rfl⟩
   case round =>
    obtain ⟨k, hk, rfl, hany, rfl⟩ := hrel
    by_cases hlt : k < cP.length
    ·obtain ⟨g, o, ts, rfl, hgz, hc0, hc1, hv⟩ := hQ.out.at k hlt
     obtain ⟨va, vc, rfl, _⟩ := hv
     have hltI : (k : Int) < (cP.length : Int) := by omega
     have hat := any_take longP cP k hlt
     have hall := any_at longP cP k hlt
     generalize cP[k] = x at *
     rw [hany, Bool.false_or] at hat
     by_cases hx : 110 < x.V.length
     ·have hxI : (110 : Int) < (x.V.length : Int) := by omega
      have hr := hR3.out
      rw [hall (decide_eq_true hx)] at hr
      subst hr
      clear hat hall hany hP hQ
      go_wp2_with fail
      go_ret
      exact ⟨rfl, hb1.out⟩
     ·have hxI : ¬ (110 : Int) < (x.V.length : Int) := by omega
      have hat2 := Hd (hat.trans (decide_eq_false hx))
      clear hat hall hany
      go_wp2_with fail
      go_roundw
      case rel => exact ⟨k + 1, by omega, by go_num, hat2.out, trivial⟩
      case measure => simp [intOf]; omega
    ·obtain rfl : k = cP.length := by omega
     rw [List.take_length] at hany
     have hr := hR3.out
     rw [hany] at hr
     subst hr
     clear hany hP hQ
     go_wp2_with fail
     go_ret
     exact ⟨rfl, hb1.out⟩
namespace Tl
theorem byts_inj {a b : ByteArray} (h : byts a = byts b) : a = b := by rw [← text_byts a, ← text_byts b, h]
theorem sameD_iff (x y : OpD) : sameD x y = true ↔ x = y := by
 unfold sameD
 rw [decide_eq_true_iff]
 constructor
 ·rintro ⟨h0, h1, h2, h3, h4, h5, h6, h7, h8, h9, h10, h11⟩
  exact OpD.ext' h0 h1 h2 h3 h4 h5 h8 h9 h10 h11 h6 (byts_inj h7)
 ·rintro rfl
  exact ⟨rfl, rfl, rfl, rfl, rfl, rfl, rfl, rfl, rfl, rfl, rfl, rfl⟩
theorem line_is {o : OpD} (h : lineF o ≠ []) : isOpF o = true := by
 cases hh : isOpF o with
 | true => rfl
 | false =>
   exfalso
   apply h
   unfold lineF
   rw [hh]
   rfl
theorem flatF_le (os : List OpD) (h : ∀ o ∈ os, o.Ok) : (flatF os).length ≤ 99501 * os.length := by
 induction os with
 | nil => simp [flatF]
 | cons o os ih =>
   have h1 := ih (fun x hx => h x (List.mem_cons_of_mem _ hx))
   have h2 := line_le o (h o (List.mem_cons_self ..))
   have e : flatF (o :: os) = (lineF o ++ [10]) ++ flatF os := rfl
   rw [e, List.length_append, List.length_append]
   simp only [List.length_cons, List.length_nil]
   omega
theorem great_small {o : OpD} (ok : o.Ok) (hB : o.B.size ≤ maxLen) (h : greatF o = false) : OpSmall o ∧ o.P.length ≤ 30 ∧ o.cP.length ≤ 30 ∧ (∀ p ∈ o.P, p.V.length ≤ 110) ∧ (∀ p ∈ o.cP, p.V.length ≤ 110) := by
 unfold greatF at h
 simp only [Bool.or_eq_false_iff, decide_eq_false_iff_not, List.any_eq_false, longP, decide_eq_true_eq] at h
 obtain ⟨⟨⟨⟨h1, h2⟩, h3⟩, h4⟩, h5⟩ := h
 have p4 : ∀ p ∈ o.P, p.V.length ≤ 110 := fun p hp => by have := h4 p hp; omega
 have p5 : ∀ p ∈ o.cP, p.V.length ≤ 110 := fun p hp => by have := h5 p hp; omega
 refine ⟨⟨ok, ⟨by omega, fun p hp => ⟨ok.P p hp, by have := p4 p hp; omega⟩⟩, by omega, ⟨by omega, fun p hp => ⟨ok.cP p hp, by have := p5 p hp; omega⟩⟩, by omega, hB⟩, by omega, by omega, p4, p5⟩
end Tl
namespace Tl
/-- whether what a kind does not name is nothing -/
def nz (h : Bool) (z : Bool) : Bool := !h && z
def offE (o : OpD) : Bool := nz (decide ((101 : UInt8) ∈ namesF o.K)) (o.E != 0)
def offC (o : OpD) : Bool := nz (decide ((99 : UInt8) ∈ namesF o.K)) (o.C != 0)
def offP (o : OpD) : Bool := nz (decide ((112 : UInt8) ∈ namesF o.K)) (decide (0 < o.P.length))
def offQ (o : OpD) : Bool := nz (decide ((113 : UInt8) ∈ namesF o.K)) (o.A != 0 || o.N != 0)
def offU (o : OpD) : Bool := nz (decide ((117 : UInt8) ∈ namesF o.K)) (o.U != 0)
def offB (o : OpD) : Bool := nz (decide ((98 : UInt8) ∈ namesF o.K)) (decide (0 < o.B.size))
def offD (o : OpD) : Bool := nz (decide ((100 : UInt8) ∈ namesF o.K)) (o.cK != 0 || o.cE != 0 || o.cC != 0 || decide (0 < o.cP.length))
theorem list0 {α : Type} (l : List α) : (l = []) ↔ ¬ 0 < l.length := by cases l <;> simp
theorem byts0 (b : ByteArray) : (byts b = []) ↔ ¬ 0 < b.size := by
 rw [← byts_length]
 exact list0 (byts b)
theorem named_off (o : OpD) (h0 : 1 ≤ o.K) (h1 : o.K ≤ 11) : isNamedF o = !(offE o || offC o || offP o || offQ o || offU o || offB o || offD o) := by
 obtain ⟨K, E, C, P, A, N, cK, cE, cC, cP, U, B⟩ := o
 dsimp only at h0 h1
 have hK : K = 1 ∨ K = 2 ∨ K = 3 ∨ K = 4 ∨ K = 5 ∨ K = 6 ∨ K = 7 ∨ K = 8 ∨ K = 9 ∨ K = 10 ∨ K = 11 := by omega
 have hb : (0 < B.size) ↔ byts B ≠ [] := by
  have := byts0 B
  by_cases h : 0 < B.size
  ·exact ⟨fun _ e => (this.1 e) h, fun _ => h⟩
  ·exact ⟨fun h' => absurd h' h, fun e => absurd (this.2 h) e⟩
 have hP : (0 < P.length) ↔ P ≠ [] := by cases P <;> simp
 have hQ : (0 < cP.length) ↔ cP ≠ [] := by cases cP <;> simp
 have hz : ∀ x : Int, (0 = x) = (x = 0) := fun x => propext ⟨Eq.symm, Eq.symm⟩
 have hn : ([] = cP) = (cP = []) := propext ⟨Eq.symm, Eq.symm⟩
 have hp : (0 = P.length) = (P = []) := propext ⟨fun h => List.eq_nil_of_length_eq_zero h.symm, fun h => by rw [h]; rfl⟩
 have hs : byts sS = [] := rfl
 have hbs : ([] = byts B) = (byts B = []) := propext ⟨Eq.symm, Eq.symm⟩
 rw [Bool.eq_iff_iff]
 rcases hK with rfl | rfl | rfl | rfl | rfl | rfl | rfl | rfl | rfl | rfl | rfl <;>
 ·unfold isNamedF sameO namedF offE offC offP offQ offU offB offD nz namesF
  simp [hb, hP, hQ, hs, hz, hn, hp, hbs]
  try (constructor <;> intro h <;> simp_all)
end Tl
end Go.Proofs.YtjjgbillihedgaaGreatDoor
