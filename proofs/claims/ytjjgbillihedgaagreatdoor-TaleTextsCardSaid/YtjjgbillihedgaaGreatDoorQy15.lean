/- parts of the proof, merged: Tl0, TlA, TlB, TlC, TlD, TlV2, TlE, TlF -/
import Derived.Lib.AppendIntMem
import Derived.Lib.ItoaLen
import Derived.Test.YtjjgbillihedgaaGreatDoorQy3
import Derived.Test.YtjjgbillihedgaaGreatDoorQy8
set_option linter.unusedSimpArgs false
set_option linter.unusedVariables false
set_option maxHeartbeats 8000000
set_option maxRecDepth 100000
namespace Go.Proofs.YtjjgbillihedgaaGreatDoor
open Go.RowKit
open Rf
open Sg
open Wide
namespace Tl
/-- a component and its numbers -/
structure PartD where
 C : Int
 V : List WI
def PartD.Ok (p : PartD) : Prop := -9223372036854775808 ≤ p.C ∧ p.C ≤ 9223372036854775807 ∧ ∀ x ∈ p.V, x.Ok
/-- what is done -/
structure OpD where
 K : Int
 E : Int
 C : Int
 P : List PartD
 A : Int
 N : Int
 cK : Int
 cE : Int
 cC : Int
 cP : List PartD
 U : Int
 B : ByteArray
def i64 (n : Int) : Prop := -9223372036854775808 ≤ n ∧ n ≤ 9223372036854775807
def u64 (n : Int) : Prop := 0 ≤ n ∧ n ≤ 18446744073709551615
def u32 (n : Int) : Prop := 0 ≤ n ∧ n ≤ 4294967295
structure OpD.Ok (o : OpD) : Prop where
 K : i64 o.K
 E : u64 o.E
 C : i64 o.C
 P : ∀ p ∈ o.P, p.Ok
 A : u32 o.A
 N : u32 o.N
 cK : i64 o.cK
 cE : u64 o.cE
 cC : i64 o.cC
 cP : ∀ p ∈ o.cP, p.Ok
 U : i64 o.U
end Tl
open Tl
/-- numbers that can be read at a slice -/
def InV (w : World) (s : Value) (v : List WI) : Prop := ∃ a c, s = .slice a v.length c ∧ (v = [] ∨ ∃ g o, a = some ⟨g, o, none⟩ ∧ g < w.heap.size ∧ ∀ j (hj : j < v.length), w.cell? ⟨g, o + j * 3, none⟩ = some (.bool v[j].n) ∧ w.cell? ⟨g, o + j * 3 + 1, none⟩ = some (.int .u64 v[j].h) ∧ w.cell? ⟨g, o + j * 3 + 2, none⟩ = some (.int .u64 v[j].l))
theorem InV.below {w w' : World} {s : Value} {v : List WI} (h : InV w s v) (hb : Below w.heap.size w w') : InV w' s v := by
 obtain ⟨a, c, rfl, h⟩ := h
 refine ⟨a, c, rfl, ?_⟩
 rcases h with rfl | ⟨g, o, rfl, hg, hc⟩
 ·exact .inl rfl
 ·refine .inr ⟨g, o, rfl, Nat.lt_of_lt_of_le hg hb.size, fun j hj => ?_⟩
  obtain ⟨h0, h1, h2⟩ := hc j hj
  exact ⟨(hb.cell (p := ⟨g, o + j * 3, none⟩) hg).trans h0, (hb.cell (p := ⟨g, o + j * 3 + 1, none⟩) hg).trans h1, (hb.cell (p := ⟨g, o + j * 3 + 2, none⟩) hg).trans h2⟩
theorem InV.nil (w : World) (c : Nat) (a : Option Addr) : InV w (.slice a 0 c) [] := ⟨a, c, rfl, .inl rfl⟩
/-- parts that can be read at a slice -/
def InS (w : World) (s : Value) (l : List PartD) : Prop := ∃ a c, s = .slice a l.length c ∧ (l = [] ∨ ∃ g o, a = some ⟨g, o, none⟩ ∧ g < w.heap.size ∧ ∀ j (hj : j < l.length), w.cell? ⟨g, o + j * 2, none⟩ = some (.int .i64 l[j].C) ∧ ∃ t, w.cell? ⟨g, o + j * 2 + 1, none⟩ = some t ∧ InV w t l[j].V)
theorem InS.below {w w' : World} {s : Value} {l : List PartD} (h : InS w s l) (hb : Below w.heap.size w w') : InS w' s l := by
 obtain ⟨a, c, rfl, h⟩ := h
 refine ⟨a, c, rfl, ?_⟩
 rcases h with rfl | ⟨g, o, rfl, hg, hc⟩
 ·exact .inl rfl
 ·refine .inr ⟨g, o, rfl, Nat.lt_of_lt_of_le hg hb.size, fun j hj => ?_⟩
  obtain ⟨h0, t, h1, h2⟩ := hc j hj
  exact ⟨(hb.cell (p := ⟨g, o + j * 2, none⟩) hg).trans h0, t, (hb.cell (p := ⟨g, o + j * 2 + 1, none⟩) hg).trans h1, h2.below hb⟩
theorem InS.nil (w : World) (c : Nat) (a : Option Addr) : InS w (.slice a 0 c) [] := ⟨a, c, rfl, .inl rfl⟩
/-- an element -/
theorem InV.at {w : World} {a : Option Addr} {n c : Nat} {v : List WI} (h : InV w (.slice a n c) v) (j : Nat) (hj : j < v.length) : ∃ g o, a = some ⟨g, o, none⟩ ∧ g < w.heap.size ∧ w.cell? ⟨g, o + j * 3, none⟩ = some (.bool v[j].n) ∧ w.cell? ⟨g, o + j * 3 + 1, none⟩ = some (.int .u64 v[j].h) ∧ w.cell? ⟨g, o + j * 3 + 2, none⟩ = some (.int .u64 v[j].l) := by
 obtain ⟨a', c', e, h⟩ := h
 cases e
 rcases h with rfl | ⟨g, o, h1, h2, h3⟩
 ·cases hj
 ·exact ⟨g, o, h1, h2, h3 j hj⟩
theorem InS.at {w : World} {a : Option Addr} {n c : Nat} {l : List PartD} (h : InS w (.slice a n c) l) (j : Nat) (hj : j < l.length) : ∃ g o t, a = some ⟨g, o, none⟩ ∧ g < w.heap.size ∧ w.cell? ⟨g, o + j * 2, none⟩ = some (.int .i64 l[j].C) ∧ w.cell? ⟨g, o + j * 2 + 1, none⟩ = some t ∧ InV w t l[j].V := by
 obtain ⟨a', c', e, h⟩ := h
 cases e
 rcases h with rfl | ⟨g, o, h1, h2, h3⟩
 ·cases hj
 ·obtain ⟨k0, t, k1, k2⟩ := h3 j hj
  exact ⟨g, o, t, h1, h2, k0, k1, k2⟩
/-- a part as a value -/
def partv (C : Int) (t : Value) : Value := .agg #[.int .i64 C, t]
/-- an op as a value: its two rows of parts at s and t -/
def opv (o : OpD) (s t : Value) : Value := .agg #[.int .i64 o.K, .int .u64 o.E, .int .i64 o.C, s, .int .u32 o.A, .int .u32 o.N, .int .i64 o.cK, .int .u64 o.cE, .int .i64 o.cC, t, .int .i64 o.U, .string o.B]
def opc (o : OpD) (s t : Value) : Array Value := #[.int .i64 o.K, .int .u64 o.E, .int .i64 o.C, s, .int .u32 o.A, .int .u32 o.N, .int .i64 o.cK, .int .u64 o.cE, .int .i64 o.cC, t, .int .i64 o.U, .string o.B]
def OpIn (w : World) (o : OpD) (s t : Value) : Prop := InS w s o.P ∧ InS w t o.cP
theorem OpIn.below {w w' : World} {o : OpD} {s t : Value} (h : OpIn w o s t) (hb : Below w.heap.size w w') : OpIn w' o s t := ⟨h.1.below hb, h.2.below hb⟩
open Tl
namespace Tl
def idF (e : Int) : Int := e % 4294967296
def genF (e : Int) : Int := e / 4294967296
def entF (a b : Int) : Int := if 1 ≤ a ∧ 1 ≤ b ∧ a ≤ 4294967295 ∧ b ≤ 4294967295 then b * 4294967296 + a else 0
def isEntF (e : Int) : Bool := decide (1 ≤ idF e) && decide (1 ≤ genF e)
end Tl
theorem id_c (e : Int) (he : u64 e) : Still 58 #[.int .u64 e] (.int .i64 (idF e)) := fun w => by
 obtain ⟨e0, e1⟩ := he
 obtain ⟨n, rfl⟩ := Int.eq_ofNat_of_zero_le e0
 have h : bits .and .u64 (n : Int) 4294967295 = idF n := by
  rw [show (4294967295 : Int) = ((4294967295 : Nat) : Int) from rfl, u64_and_nat n 4294967295 (by omega) (by omega)]
  unfold idF
  rw [show (4294967295 : Nat) = 2 ^ 32 - 1 from rfl, Nat.and_two_pow_sub_one_eq_mod]
  omega
 have hb : 0 ≤ idF n ∧ idF n ≤ 4294967295 := by unfold idF; omega
 go_enter Tryz.func58, Tryz.ntmps58
 go_wp2_with fail
 go_ret
 exact ⟨rfl, rfl⟩
theorem gen_c (e : Int) (he : u64 e) : Still 59 #[.int .u64 e] (.int .i64 (genF e)) := fun w => by
 obtain ⟨e0, e1⟩ := he
 unfold genF
 go_enter Tryz.func59, Tryz.ntmps59
 go_wp2_with fail
 go_ret
 exact ⟨rfl, rfl⟩
theorem ent_c (a b : Int) (ha : i64 a) (hb : i64 b) : Still 65 #[.int .i64 a, .int .i64 b] (.int .u64 (entF a b)) := fun w => by
 obtain ⟨a0, a1⟩ := ha
 obtain ⟨b0, b1⟩ := hb
 by_cases h1 : 1 ≤ a ∧ 1 ≤ b
 ·by_cases h2 : a ≤ 4294967295 ∧ b ≤ 4294967295
  ·obtain ⟨p1, p2⟩ := h1
   obtain ⟨q1, q2⟩ := h2
   rw [show entF a b = b * 4294967296 + a from if_pos ⟨p1, p2, q1, q2⟩]
   have ho : bits .or .u64 (b * 4294967296) a = b * 4294967296 + a := by
    obtain ⟨n, rfl⟩ := Int.eq_ofNat_of_zero_le (show 0 ≤ a by omega)
    obtain ⟨m, rfl⟩ := Int.eq_ofNat_of_zero_le (show 0 ≤ b by omega)
    rw [show (m : Int) * 4294967296 = ((m * 4294967296 : Nat) : Int) by omega, u64_or_nat (m * 4294967296) n (by omega) (by omega), nat_join 32 (m * 4294967296) n (by omega) (by omega)]
    omega
   go_enter Tryz.func65, Tryz.ntmps65
   go_wp2_with fail
   go_ret
   exact ⟨rfl, rfl⟩
  ·rw [show entF a b = 0 from if_neg (fun h => h2 ⟨h.2.2.1, h.2.2.2⟩)]
   have h3 : 4294967295 < max a b := by omega
   have h4 : ¬ (min a b < 1) := by omega
   clear h1 h2
   go_enter Tryz.func65, Tryz.ntmps65
   go_wp2_with fail
   go_ret
   exact ⟨rfl, rfl⟩
 ·rw [show entF a b = 0 from if_neg (fun h => h1 ⟨h.1, h.2.1⟩)]
  have h4 : min a b < 1 := by omega
  clear h1
  go_enter Tryz.func65, Tryz.ntmps65
  go_wp2_with fail
  go_ret
  exact ⟨rfl, rfl⟩
theorem isEnt_c (e : Int) (he : u64 e) : Still 25 #[.int .u64 e] (.bool (isEntF e)) := fun w => by
 have c1 := id_c e he
 have c2 := gen_c e he
 unfold isEntF
 replace c1 := Hd c1
 replace c2 := Hd c2
 have hm : decide (1 ≤ min (idF e) (genF e)) = (decide (1 ≤ idF e) && decide (1 ≤ genF e)) := by
  rw [Bool.eq_iff_iff]
  simp only [decide_eq_true_iff, Bool.and_eq_true]
  omega
 rw [← hm]
 generalize idF e = x at *
 generalize genF e = y at *
 clear hm
 go_enter Tryz.func25, Tryz.ntmps25
 go_wp2_with fail
 refine (c1.out.on _).mono ?_
 rintro e w' ⟨rfl, rfl⟩
 go_wp2_with fail
 refine (c2.out.on _).mono ?_
 rintro e w' ⟨rfl, rfl⟩
 go_wp2_with fail
 go_ret
 exact ⟨by simp, rfl⟩
theorem kinds_c (w : World) : Calls Tryz.prog 60 #[] w fun e w' => e = .returned (.slice (some ⟨w.heap.size, 0, none⟩) 6 6) ∧ w' = w.alloc (.cells #[.int .i64 0, .int .i64 1, .int .i64 2, .int .i64 3, .int .i64 5, .int .i64 4] 3) := by
 go_enter Tryz.func60, Tryz.ntmps60
 go_wp2_with fail
 go_ret
 exact ⟨rfl, rfl⟩
namespace Tl
def sS : ByteArray := ⟨#[]⟩
/-- the words, by kind -/
def wordL : List ByteArray := [⟨#[]⟩, ⟨#[115, 112, 97, 119, 110]⟩, ⟨#[100, 101, 115, 112, 97, 119, 110]⟩, ⟨#[97, 100, 100]⟩, ⟨#[114, 101, 109, 111, 118, 101]⟩, ⟨#[115, 101, 116]⟩, ⟨#[103, 101, 116]⟩, ⟨#[113, 117, 101, 114, 121]⟩, ⟨#[100, 101, 102, 101, 114]⟩, ⟨#[102, 114, 97, 109, 101]⟩, ⟨#[98, 101, 103, 105, 110]⟩, ⟨#[97, 98, 111, 114, 116]⟩]
end Tl
theorem words_c (w : World) : Calls Tryz.prog 35 #[] w fun e w' => e = .returned (.slice (some ⟨w.heap.size, 0, none⟩) 12 12) ∧ w' = w.alloc (.cells (wordL.map Value.string).toArray 9) := by
 go_enter Tryz.func35, Tryz.ntmps35
 go_wp2_with fail
 go_ret
 exact ⟨rfl, rfl⟩
/-- a function as a value -/
def fnv (f : FuncId) : Value := .func (.func f) #[] #[]
theorem isPart1_c (x : WI) (ho : x.Ok) : Ret 91 #[wv x] (.bool (!x.form)) := fun w => by
 have c := fun w => form_c x ho w
 unfold wv at c ⊢
 replace c := Hd c
 have hb0 := Hd (below1 w (.cells #[.bool x.n, .int .u64 x.h, .int .u64 x.l] 61))
 go_enter Tryz.func91, Tryz.ntmps91
 go_wp2_with fail
 refine (c.out _).mono ?_
 rintro e w1 ⟨rfl, hb1⟩
 have hb := Hd (below_up hb0.out hb0.out.size hb1)
 clear hb1 hb0
 go_wp2_with fail
 go_ret
 exact ⟨rfl, hb.out⟩
theorem indexV_c (v : List WI) (hv : ∀ x ∈ v, x.Ok) (hL : v.length ≤ 1000000) (s : Value) (w : World) (hin : InV w s v) :
 Calls Tryz.prog 117 #[s, fnv 91] w fun e w' => (∃ r, e = .returned (.int .i64 r) ∧ decide (0 ≤ r) = v.any (fun x => !x.form)) ∧ Below w.heap.size w w' := by
 obtain ⟨a, c, rfl, _⟩ := id hin
 obtain ⟨R, hR⟩ : ∃ R, v.any (fun x => !x.form) = R := ⟨_, rfl⟩
 rw [hR]
 replace hR := Hd hR
 replace hin := Hd hin
 replace hv := Hd hv
 unfold fnv
 go_enter Tryz.func117, Tryz.ntmps117
 go_wp2_with fail
 go_loopw [8] (fun i wr => ∃ j : Nat, j ≤ v.length ∧ i = .int .i64 j ∧ (v.take j).any (fun x => !x.form) = false ∧ Below w.heap.size w wr) (fun i _ => v.length - (intOf i).toNat)
 case atStart => exact ⟨0, Nat.zero_le _, rfl, rfl, Below.refl _ _⟩
 case round =>
  obtain ⟨j, hj, rfl, hno, hb⟩ := hrel
  by_cases hlt : j < v.length
  ·obtain ⟨g, o, hga, hg, h0, h1, h2⟩ := (hin.out.below hb).at j hlt
   subst hga
   have hltI : (j : Int) < (v.length : Int) := by omega
   have hst : v.take (j + 1) = v.take j ++ [v[j]] := List.take_succ_eq_append_getElem hlt
   have hmem : v[j] ∈ v := List.getElem_mem hlt
   have ho := hv.out _ hmem
   generalize v[j] = x at *
   have c1 := isPart1_c x ho
   unfold wv at c1
   have hbz := hb.size
   cases hx : x.form with
   | false =>
     rw [hx] at c1
     have hr := hR.out
     rw [List.any_eq_true.2 ⟨x, hmem, by rw [hx]; rfl⟩] at hr
     subst hr
     clear hst hno hmem hR hx ho
     replace c1 := Hd c1
     replace hb := Hd hb
     go_wp2_with fail
     refine (c1.out.on _).mono ?_
     rintro e w1 ⟨rfl, hb1⟩
     have hb2 := Hd (below_up hb.out hbz hb1)
     clear hb1 hb
     go_wp2_with fail
     go_ret
     exact ⟨⟨_, rfl, by simp⟩, hb2.out⟩
   | true =>
     rw [hx] at c1
     have hno' : (v.take (j + 1)).any (fun x => !x.form) = false := by
      rw [hst, List.any_append, hno]
      simp [hx]
     clear hst hno hmem hx ho
     replace hno' := Hd hno'
     replace c1 := Hd c1
     replace hb := Hd hb
     go_wp2_with fail
     refine (c1.out.on _).mono ?_
     rintro e w1 ⟨rfl, hb1⟩
     have hb2 := Hd (below_up hb.out hbz hb1)
     clear hb1 hb
     go_wp2_with fail
     go_roundw
     case rel => exact ⟨j + 1, by omega, by go_num, hno'.out, hb2.out⟩
     case measure => simp [intOf]; omega
  ·obtain rfl : j = v.length := by omega
   rw [List.take_length] at hno
   have hr := hR.out
   rw [hno] at hr
   subst hr
   clear hno hR
   replace hb := Hd hb
   go_wp2_with fail
   go_ret
   exact ⟨⟨_, rfl, by simp⟩, hb.out⟩
theorem containsV_c (v : List WI) (hv : ∀ x ∈ v, x.Ok) (hL : v.length ≤ 1000000) (s : Value) (w : World) (hin : InV w s v) :
 Calls Tryz.prog 90 #[s, fnv 91] w fun e w' => e = .returned (.bool (v.any (fun x => !x.form))) ∧ Below w.heap.size w w' := by
 have c := Hd (indexV_c v hv hL s w hin)
 obtain ⟨a, cp, rfl, _⟩ := hin
 clear hv
 unfold fnv at *
 go_enter Tryz.func90, Tryz.ntmps90
 go_wp2_with fail
 refine c.out.mono ?_
 rintro e w1 ⟨⟨r, rfl, hr⟩, hb⟩
 replace hr := Hd hr
 replace hb := Hd hb
 clear c
 go_wp2_with fail
 go_ret
 exact ⟨by rw [← hr.out]; rfl, hb.out⟩
namespace Tl
def isPartF (v : List WI) : Bool := decide (v.length ≤ 100) && v.all WI.form
end Tl
theorem any_not (v : List WI) : v.any (fun x => !x.form) = !v.all WI.form := by
 induction v with
 | nil => rfl
 | cons x v ih => rw [List.any_cons, List.all_cons, ih, Bool.not_and]
theorem isPart_c (C : Int) (v : List WI) (hv : ∀ x ∈ v, x.Ok) (hL : v.length ≤ 1000000) (t : Value) (w : World) (hin : InV w t v) :
 Calls Tryz.prog 57 #[partv C t] w fun e w' => e = .returned (.bool (isPartF v)) ∧ Below w.heap.size w w' := by
 have hb0 := below1 w (.cells #[.int .i64 C, t] 65)
 have c := containsV_c v hv hL t _ (hin.below hb0)
 rw [any_not] at c
 obtain ⟨a, cp, rfl, _⟩ := hin
 unfold partv isPartF
 generalize v.all WI.form = f at *
 unfold fnv at c
 replace c := Hd c
 replace hb0 := Hd hb0
 clear hv
 by_cases h : (v.length : Int) ≤ 100
 ·rw [decide_eq_true (show v.length ≤ 100 by omega)]
  go_enter Tryz.func57, Tryz.ntmps57
  go_wp2_with fail
  refine c.out.mono ?_
  rintro e w1 ⟨rfl, hb1⟩
  have hb := Hd (below_up hb0.out hb0.out.size hb1)
  clear hb1 hb0 c
  go_wp2_with fail
  go_ret
  exact ⟨by simp, hb.out⟩
 ·rw [decide_eq_false (show ¬ v.length ≤ 100 by omega)]
  clear c
  go_enter Tryz.func57, Tryz.ntmps57
  go_wp2_with fail
  go_ret
  exact ⟨by simp, hb0.out⟩
theorem isParts1_c (C : Int) (v : List WI) (hv : ∀ x ∈ v, x.Ok) (hL : v.length ≤ 1000000) (t : Value) (w : World) (hin : InV w t v) :
 Calls Tryz.prog 56 #[partv C t] w fun e w' => e = .returned (.bool (!isPartF v)) ∧ Below w.heap.size w w' := by
 have hb0 := below1 w (.cells #[.int .i64 C, t] 65)
 have c := isPart_c C v hv hL t _ (hin.below hb0)
 obtain ⟨a, cp, rfl, _⟩ := hin
 unfold partv at *
 generalize isPartF v = f at *
 replace c := Hd c
 replace hb0 := Hd hb0
 clear hv
 go_enter Tryz.func56, Tryz.ntmps56
 go_wp2_with fail
 refine c.out.mono ?_
 rintro e w1 ⟨rfl, hb1⟩
 have hb := Hd (below_up hb0.out hb0.out.size hb1)
 clear hb1 hb0 c
 go_wp2_with fail
 go_ret
 exact ⟨rfl, hb.out⟩
namespace Tl
/-- what is asked of parts' sizes -/
def Small (l : List PartD) : Prop := l.length ≤ 1000000 ∧ ∀ p ∈ l, p.Ok ∧ p.V.length ≤ 1000000
end Tl
theorem indexS_c (l : List PartD) (hl : Small l) (s : Value) (w : World) (hin : InS w s l) :
 Calls Tryz.prog 89 #[s, fnv 56] w fun e w' => (∃ r, e = .returned (.int .i64 r) ∧ decide (0 ≤ r) = l.any (fun p => !isPartF p.V)) ∧ Below w.heap.size w w' := by
 obtain ⟨a, c, rfl, _⟩ := id hin
 obtain ⟨hL, hv⟩ := hl
 obtain ⟨R, hR⟩ : ∃ R, l.any (fun p => !isPartF p.V) = R := ⟨_, rfl⟩
 rw [hR]
 replace hR := Hd hR
 replace hin := Hd hin
 replace hv := Hd hv
 unfold fnv
 go_enter Tryz.func89, Tryz.ntmps89
 go_wp2_with fail
 go_loopw [8] (fun i wr => ∃ j : Nat, j ≤ l.length ∧ i = .int .i64 j ∧ (l.take j).any (fun p => !isPartF p.V) = false ∧ Below w.heap.size w wr) (fun i _ => l.length - (intOf i).toNat)
 case atStart => exact ⟨0, Nat.zero_le _, rfl, rfl, Below.refl _ _⟩
 case round =>
  obtain ⟨j, hj, rfl, hno, hb⟩ := hrel
  by_cases hlt : j < l.length
  ·obtain ⟨g, o, t, hga, hg, h0, h1, h2⟩ := (hin.out.below hb).at j hlt
   subst hga
   have hltI : (j : Int) < (l.length : Int) := by omega
   have hst : l.take (j + 1) = l.take j ++ [l[j]] := List.take_succ_eq_append_getElem hlt
   have hmem : l[j] ∈ l := List.getElem_mem hlt
   obtain ⟨ho, hvl⟩ := hv.out _ hmem
   generalize l[j] = x at *
   have c1 := isParts1_c x.C x.V ho.2.2 hvl t wr h2
   unfold partv at c1
   obtain ⟨ta, tc, rfl, _⟩ := h2
   have hbz := hb.size
   cases hx : isPartF x.V with
   | false =>
     rw [hx] at c1
     have hr := hR.out
     rw [List.any_eq_true.2 ⟨x, hmem, by rw [hx]; rfl⟩] at hr
     subst hr
     clear hst hno hmem hR hx ho
     replace c1 := Hd c1
     replace hb := Hd hb
     go_wp2_with fail
     refine c1.out.mono ?_
     rintro e w1 ⟨rfl, hb1⟩
     have hb2 := Hd (below_up hb.out hbz hb1)
     clear hb1 hb
     go_wp2_with fail
     go_ret
     exact ⟨⟨_, rfl, by simp⟩, hb2.out⟩
   | true =>
     rw [hx] at c1
     have hno' : (l.take (j + 1)).any (fun p => !isPartF p.V) = false := by
      rw [hst, List.any_append, hno]
      simp [hx]
     clear hst hno hmem hx ho
     replace hno' := Hd hno'
     replace c1 := Hd c1
     replace hb := Hd hb
     go_wp2_with fail
     refine c1.out.mono ?_
     rintro e w1 ⟨rfl, hb1⟩
     have hb2 := Hd (below_up hb.out hbz hb1)
     clear hb1 hb
     go_wp2_with fail
     go_roundw
     case rel => exact ⟨j + 1, by omega, by go_num, hno'.out, hb2.out⟩
     case measure => simp [intOf]; omega
  ·obtain rfl : j = l.length := by omega
   rw [List.take_length] at hno
   have hr := hR.out
   rw [hno] at hr
   subst hr
   clear hno hR
   replace hb := Hd hb
   go_wp2_with fail
   go_ret
   exact ⟨⟨_, rfl, by simp⟩, hb.out⟩
theorem containsS_c (l : List PartD) (hl : Small l) (s : Value) (w : World) (hin : InS w s l) :
 Calls Tryz.prog 55 #[s, fnv 56] w fun e w' => e = .returned (.bool (l.any (fun p => !isPartF p.V))) ∧ Below w.heap.size w w' := by
 have c := Hd (indexS_c l hl s w hin)
 obtain ⟨a, cp, rfl, _⟩ := hin
 clear hl
 unfold fnv at *
 go_enter Tryz.func55, Tryz.ntmps55
 go_wp2_with fail
 refine c.out.mono ?_
 rintro e w1 ⟨⟨r, rfl, hr⟩, hb⟩
 replace hr := Hd hr
 replace hb := Hd hb
 clear c
 go_wp2_with fail
 go_ret
 exact ⟨by rw [← hr.out]; rfl, hb.out⟩
theorem WI.ext' {x y : WI} (h1 : x.n = y.n) (h2 : x.h = y.h) (h3 : x.l = y.l) : x = y := by
 cases x; cases y; simp_all
namespace Tl
def eqI (x y : WI) : Bool := (x.n == y.n) && ((x.h == y.h) && (x.l == y.l))
end Tl
theorem eqI_iff (x y : WI) : eqI x y = true ↔ x = y := by
 unfold eqI
 simp only [Bool.and_eq_true, beq_iff_eq]
 constructor
 ·rintro ⟨h1, h2, h3⟩; exact WI.ext' h1 h2 h3
 ·rintro rfl; exact ⟨rfl, rfl, rfl⟩
instance : DecidableEq WI := fun x y => decidable_of_iff _ (eqI_iff x y)
theorem take_ne {α : Type} {v u : List α} {j : Nat} (h : j < v.length) (k : j < u.length) (hne : v[j] ≠ u[j]) : v ≠ u := by
 rintro rfl
 exact hne rfl
theorem equalV_c (v u : List WI) (hL : v.length ≤ 1000000) (s t : Value) (w : World) (hin : InV w s v) (hjn : InV w t u) :
 Calls Tryz.prog 113 #[s, t] w fun e w' => e = .returned (.bool (decide (v = u))) ∧ Below w.heap.size w w' := by
 obtain ⟨a, c, rfl, _⟩ := id hin
 obtain ⟨b, d, rfl, _⟩ := id hjn
 obtain ⟨R, hR⟩ : ∃ R, decide (v = u) = R := ⟨_, rfl⟩
 rw [hR]
 replace hR := Hd hR
 replace hin := Hd hin
 replace hjn := Hd hjn
 by_cases hlen : v.length = u.length
 ·have e0 : ((v.length : Int) != (u.length : Int)) = false := by rw [hlen]; simp
  go_enter Tryz.func113, Tryz.ntmps113
  go_wp2_with fail
  go_loopw [13] (fun i wr => ∃ j : Nat, j ≤ v.length ∧ i = .int .i64 j ∧ v.take j = u.take j ∧ Below w.heap.size w wr) (fun i _ => v.length - (intOf i).toNat)
  case atStart => exact ⟨0, Nat.zero_le _, rfl, rfl, Below.refl _ _⟩
  case round =>
   obtain ⟨j, hj, rfl, hno, hb⟩ := hrel
   by_cases hlt : j < v.length
   ·have hlt2 : j < u.length := by omega
    obtain ⟨g, o, hga, hg, h0, h1, h2⟩ := (hin.out.below hb).at j hlt
    obtain ⟨g', o', hga', hg', h0', h1', h2'⟩ := (hjn.out.below hb).at j hlt2
    subst hga
    subst hga'
    have hltI : (j : Int) < (v.length : Int) := by omega
    have hltJ : (j : Int) < (u.length : Int) := by omega
    have hst : v.take (j + 1) = v.take j ++ [v[j]] := List.take_succ_eq_append_getElem hlt
    have hsu : u.take (j + 1) = u.take j ++ [u[j]] := List.take_succ_eq_append_getElem hlt2
    have hne : v[j] ≠ u[j] → v ≠ u := take_ne hlt hlt2
    generalize v[j] = x at *
    generalize u[j] = y at *
    by_cases hxy : x = y
    ·subst hxy
     have hno' : v.take (j + 1) = u.take (j + 1) := by rw [hst, hsu, hno]
     clear hst hsu hno hne
     replace hno' := Hd hno'
     replace hb := Hd hb
     go_wp2_with fail
     go_quiet (fail)
     go_wp2_with fail
     go_roundw
     case rel => exact ⟨j + 1, by omega, by go_num, hno'.out, below_drewN hb.out⟩
     case measure => simp [intOf]; omega
    ·have hr := hR.out
     rw [decide_eq_false (hne hxy)] at hr
     subst hr
     clear hst hsu hno hne hR
     replace hb := Hd hb
     by_cases e1 : x.n = y.n
     ·by_cases e2 : x.h = y.h
      ·have e3 : ¬ x.l = y.l := fun e3 => hxy (WI.ext' e1 e2 e3)
       clear hxy
       obtain ⟨xn, xh, xl⟩ := x
       obtain ⟨yn, yh, yl⟩ := y
       dsimp only at *
       subst e1 e2
       go_wp2_with fail
       go_quiet (fail)
       go_wp2_with fail
       go_ret
       exact ⟨rfl, below_drewN hb.out⟩
      ·clear hxy
       obtain ⟨xn, xh, xl⟩ := x
       obtain ⟨yn, yh, yl⟩ := y
       dsimp only at *
       subst e1
       go_wp2_with fail
       go_quiet (fail)
       go_wp2_with fail
       go_ret
       exact ⟨rfl, below_drewN hb.out⟩
     ·clear hxy
      obtain ⟨xn, xh, xl⟩ := x
      obtain ⟨yn, yh, yl⟩ := y
      dsimp only at *
      go_wp2_with fail
      go_quiet (fail)
      go_wp2_with fail
      go_ret
      exact ⟨rfl, below_drewN hb.out⟩
   ·obtain rfl : j = v.length := by omega
    rw [List.take_length, hlen, List.take_length] at hno
    have hr := hR.out
    rw [decide_eq_true hno] at hr
    subst hr
    clear hno hR
    replace hb := Hd hb
    go_wp2_with fail
    go_ret
    exact ⟨rfl, hb.out⟩
 ·have e0 : ((v.length : Int) != (u.length : Int)) = true := bne_iff_ne.2 (by omega)
  have hr := hR.out
  rw [decide_eq_false (fun e => hlen (by rw [e]))] at hr
  subst hr
  clear hR
  go_enter Tryz.func113, Tryz.ntmps113
  go_wp2_with fail
  go_ret
  exact ⟨rfl, Below.refl _ _⟩
namespace Tl
theorem PartD.ext' {p q : PartD} (h1 : p.C = q.C) (h2 : p.V = q.V) : p = q := by cases p; cases q; simp_all
instance : DecidableEq PartD := fun p q => decidable_of_iff (p.C = q.C ∧ p.V = q.V) ⟨fun h => PartD.ext' h.1 h.2, fun h => by rw [h]; exact ⟨rfl, rfl⟩⟩
end Tl
theorem samePart_c (C D : Int) (v u : List WI) (hL : v.length ≤ 1000000) (s t : Value) (w : World) (hin : InV w s v) (hjn : InV w t u) :
 Calls Tryz.prog 85 #[partv C s, partv D t] w fun e w' => e = .returned (.bool (decide (C = D) && decide (v = u))) ∧ Below w.heap.size w w' := by
 have hb1 := (below1 w (.cells #[.int .i64 C, s] 65)).alloc (by rw [size_alloc]; omega) (.cells #[.int .i64 D, t] 65)
 have c := equalV_c v u hL s t _ (hin.below hb1) (hjn.below hb1)
 obtain ⟨a, cp, rfl, _⟩ := hin
 obtain ⟨b, cq, rfl, _⟩ := hjn
 unfold partv
 generalize decide (v = u) = f at *
 replace c := Hd c
 replace hb1 := Hd hb1
 have hs1 := hb1.out.size
 by_cases h : C = D
 ·subst h
  rw [decide_eq_true rfl, Bool.true_and]
  have e1 : (C == C) = true := beq_self_eq_true C
  go_enter Tryz.func85, Tryz.ntmps85
  go_wp2_with fail
  refine c.out.mono ?_
  rintro e w1 ⟨rfl, hb2⟩
  have hb := Hd (below_up hb1.out hs1 hb2)
  clear hb2 hb1 c
  go_wp2_with fail
  go_ret
  exact ⟨rfl, hb.out⟩
 ·rw [decide_eq_false h, Bool.false_and]
  have e1 : (C == D) = false := beq_eq_false_iff_ne.2 h
  clear c
  go_enter Tryz.func85, Tryz.ntmps85
  go_wp2_with fail
  go_ret
  exact ⟨rfl, hb1.out⟩
theorem equalS_c (l m : List PartD) (hl : Small l) (s t : Value) (w : World) (hin : InS w s l) (hjn : InS w t m) :
 Calls Tryz.prog 84 #[s, t, fnv 85] w fun e w' => e = .returned (.bool (decide (l = m))) ∧ Below w.heap.size w w' := by
 obtain ⟨a, c, rfl, _⟩ := id hin
 obtain ⟨b, d, rfl, _⟩ := id hjn
 obtain ⟨hL, hv⟩ := hl
 obtain ⟨R, hR⟩ : ∃ R, decide (l = m) = R := ⟨_, rfl⟩
 rw [hR]
 replace hR := Hd hR
 replace hin := Hd hin
 replace hjn := Hd hjn
 replace hv := Hd hv
 unfold fnv
 by_cases hlen : l.length = m.length
 ·have e0 : ((l.length : Int) != (m.length : Int)) = false := by rw [hlen]; simp
  replace hlen := Hd hlen
  go_enter Tryz.func84, Tryz.ntmps84
  go_wp2_with fail
  go_loopw [17] (fun i wr => ∃ j : Nat, j ≤ l.length ∧ i = .int .i64 j ∧ l.take j = m.take j ∧ Below w.heap.size w wr) (fun i _ => l.length - (intOf i).toNat)
  case atStart => exact ⟨0, Nat.zero_le _, rfl, rfl, Below.refl _ _⟩
  case round =>
   obtain ⟨j, hj, rfl, hno, hb⟩ := hrel
   by_cases hlt : j < l.length
   ·have hlt2 : j < m.length := by have := hlen.out; omega
    obtain ⟨g, o, ts, hga, hg, h0, h1, h2⟩ := (hin.out.below hb).at j hlt
    obtain ⟨g', o', tt, hga', hg', h0', h1', h2'⟩ := (hjn.out.below hb).at j hlt2
    subst hga
    subst hga'
    have hltI : (j : Int) < (l.length : Int) := by omega
    have hltJ : (j : Int) < (m.length : Int) := by omega
    have hst : l.take (j + 1) = l.take j ++ [l[j]] := List.take_succ_eq_append_getElem hlt
    have hsu : m.take (j + 1) = m.take j ++ [m[j]] := List.take_succ_eq_append_getElem hlt2
    have hne : l[j] ≠ m[j] → l ≠ m := take_ne hlt hlt2
    have hvl := (hv.out _ (List.getElem_mem hlt)).2
    generalize l[j] = x at *
    generalize m[j] = y at *
    have hbz := hb.size
    have hba := hb.alloc hbz (.cells #[.int .i64 x.C, ts] 65)
    have hb1 := hba.alloc hba.size (.cells #[.int .i64 y.C, tt] 65)
    have hbw := (below1 wr (.cells #[.int .i64 x.C, ts] 65)).alloc (by rw [size_alloc]; omega) (.cells #[.int .i64 y.C, tt] 65)
    have cs := samePart_c x.C y.C x.V y.V hvl ts tt _ (h2.below hbw) (h2'.below hbw)
    have h1'' : (wr.alloc (.cells #[.int .i64 x.C, ts] 65)).cell? ⟨g', o' + j * 2 + 1, none⟩ = some tt := ((below1 wr _).cell (p := ⟨g', o' + j * 2 + 1, none⟩) hg').trans h1'
    have h0'' : (wr.alloc (.cells #[.int .i64 x.C, ts] 65)).cell? ⟨g', o' + j * 2, none⟩ = some (.int .i64 y.C) := ((below1 wr _).cell (p := ⟨g', o' + j * 2, none⟩) hg').trans h0'
    have hbs1 := hb1.size
    obtain ⟨a1, cp1, rfl, _⟩ := h2
    obtain ⟨b1, cq1, rfl, _⟩ := h2'
    clear hba hbw
    unfold partv at cs
    by_cases hxy : x = y
    ·subst hxy
     rw [decide_eq_true rfl, decide_eq_true rfl, Bool.true_and] at cs
     have hno' : l.take (j + 1) = m.take (j + 1) := by rw [hst, hsu, hno]
     clear hst hsu hno hne
     replace hno' := Hd hno'
     replace hb1 := Hd hb1
     replace hb := Hd hb
     replace cs := Hd cs
     go_wp2_with fail
     refine cs.out.mono ?_
     rintro e w1 ⟨rfl, hb2⟩
     have hb3 := Hd (below_up hb1.out hbs1 hb2)
     clear hb2 hb1 cs hb
     go_wp2_with fail
     go_roundw
     case rel => exact ⟨j + 1, by omega, by go_num, hno'.out, hb3.out⟩
     case measure => simp [intOf]; omega
    ·have hr := hR.out
     rw [decide_eq_false (hne hxy)] at hr
     subst hr
     have e9 : (decide (x.C = y.C) && decide (x.V = y.V)) = false := by
      rw [Bool.and_eq_false_iff, decide_eq_false_iff_not, decide_eq_false_iff_not]
      by_cases hc : x.C = y.C
      ·exact .inr fun hv => hxy (PartD.ext' hc hv)
      ·exact .inl hc
     rw [e9] at cs
     clear hst hsu hno hne hR e9 hxy
     replace hb1 := Hd hb1
     replace hb := Hd hb
     replace cs := Hd cs
     go_wp2_with fail
     refine cs.out.mono ?_
     rintro e w1 ⟨rfl, hb2⟩
     have hb3 := Hd (below_up hb1.out hbs1 hb2)
     clear hb2 hb1 cs hb
     go_wp2_with fail
     go_ret
     exact ⟨rfl, hb3.out⟩
   ·obtain rfl : j = l.length := by omega
    rw [List.take_length, hlen.out, List.take_length] at hno
    have hr := hR.out
    rw [decide_eq_true hno] at hr
    subst hr
    clear hno hR
    replace hb := Hd hb
    go_wp2_with fail
    go_ret
    exact ⟨rfl, hb.out⟩
 ·have e0 : ((l.length : Int) != (m.length : Int)) = true := bne_iff_ne.2 (by omega)
  have hr := hR.out
  rw [decide_eq_false (fun e => hlen (by rw [e]))] at hr
  subst hr
  clear hR
  go_enter Tryz.func84, Tryz.ntmps84
  go_wp2_with fail
  go_ret
  exact ⟨rfl, Below.refl _ _⟩
/-- a command as a value -/
def cmdv (K E C : Int) (t : Value) : Value := .agg #[.int .i64 K, .int .u64 E, .int .i64 C, t]
theorem same_c (K E C K' E' C' : Int) (l m : List PartD) (hl : Small l) (s t : Value) (w : World) (hin : InS w s l) (hjn : InS w t m) :
 Calls Tryz.prog 51 #[cmdv K E C s, cmdv K' E' C' t] w fun e w' => e = .returned (.bool (decide (K = K' ∧ E = E' ∧ C = C' ∧ l = m))) ∧ Below w.heap.size w w' := by
 have hb1 := (below1 w (.cells #[.int .i64 K, .int .u64 E, .int .i64 C, s] 30)).alloc (by rw [size_alloc]; omega) (.cells #[.int .i64 K', .int .u64 E', .int .i64 C', t] 30)
 have c := equalS_c l m hl s t _ (hin.below hb1) (hjn.below hb1)
 obtain ⟨a, cp, rfl, _⟩ := hin
 obtain ⟨b, cq, rfl, _⟩ := hjn
 unfold cmdv
 have hR : decide (K = K' ∧ E = E' ∧ C = C' ∧ l = m) = ((K == K') && ((E == E') && ((C == C') && decide (l = m)))) := by
  rw [Bool.eq_iff_iff]
  simp [Bool.and_eq_true]
 rw [hR]
 clear hR
 generalize decide (l = m) = f at *
 unfold fnv at c
 replace c := Hd c
 replace hb1 := Hd hb1
 have hs1 := hb1.out.size
 generalize hk : (K == K') = k at *
 generalize he : (E == E') = e at *
 generalize hc : (C == C') = cc at *
 cases k with
 | false =>
   clear c
   go_enter Tryz.func51, Tryz.ntmps51
   go_wp2_with fail
   go_ret
   exact ⟨rfl, hb1.out⟩
 | true =>
   cases e with
   | false =>
     clear c
     go_enter Tryz.func51, Tryz.ntmps51
     go_wp2_with fail
     go_ret
     exact ⟨rfl, hb1.out⟩
   | true =>
     cases cc with
     | false =>
       clear c
       go_enter Tryz.func51, Tryz.ntmps51
       go_wp2_with fail
       go_ret
       exact ⟨rfl, hb1.out⟩
     | true =>
       go_enter Tryz.func51, Tryz.ntmps51
       go_wp2_with fail
       refine c.out.mono ?_
       rintro e w1 ⟨rfl, hb2⟩
       have hb := Hd (below_up hb1.out hs1 hb2)
       clear hb2 hb1 c
       go_wp2_with fail
       go_ret
       exact ⟨rfl, hb.out⟩
theorem partsS_c (ps : List PartD) (hL0 : ps.length ≤ 100000) (s : Value) (w : World) (hin0 : InS w s ps) :
 Calls Tryz.prog 52 #[s] w fun e w' => e = .returned (.tuple #[.int .u32 (((partsF (ps.map (·.C))).1 : Nat) : Int), .int .i64 (partsF (ps.map (·.C))).2]) ∧ Below w.heap.size w w' := by
 obtain ⟨i0, hi, hz0, hz1, hz2⟩ := info_parts infoInt
 obtain ⟨l, hlp⟩ : ∃ l, ps.map (·.C) = l := ⟨_, rfl⟩
 rw [hlp]
 have hL : l.length ≤ 100000 := by rw [← hlp, List.length_map]; exact hL0
 obtain ⟨a, c, rfl, _⟩ := id hin0
 have hpl : ps.length = l.length := by rw [← hlp, List.length_map]
 rw [hpl] at hin0 ⊢
 have hin : ∀ wr, Below w.heap.size w wr → ∀ j (hj : j < l.length), ∃ g o ta tn tc, a = some ⟨g, o, none⟩ ∧ g < wr.heap.size ∧ wr.cell? ⟨g, o + j * 2, none⟩ = some (.int .i64 l[j]) ∧ wr.cell? ⟨g, o + j * 2 + 1, none⟩ = some (.slice ta tn tc) := by
  intro wr hb j hj
  obtain ⟨g, o, t, h1, h2, h3, h4, h5⟩ := (hin0.below hb).at j (by omega)
  obtain ⟨ta, tc, rfl, _⟩ := h5
  refine ⟨g, o, ta, _, tc, h1, h2, ?_, h4⟩
  subst hlp
  rw [List.getElem_map]
  exact h3
 clear hin0 hlp hpl hL0
 obtain ⟨R, hR⟩ : ∃ r, partsF l = r := ⟨_, rfl⟩
 rw [hR]
 replace hR := Hd hR
 replace hin := Hd hin
 go_enter Tryz.func52, Tryz.ntmps52
 go_wp2_with fail
 go_loopw [4, 11] (fun b i wr => ∃ j : Nat, j ≤ l.length ∧ i = .int .i64 j ∧ (∃ a c, b = .slice a (l.take j).length c ∧ OwnI wr w.heap.size a c (l.take j)) ∧ Below w.heap.size w wr) (fun _ i _ => l.length - (intOf i).toNat)
 case atStart => exact ⟨0, Nat.zero_le _, rfl, ⟨none, 0, rfl, OwnI.nil w _⟩, Below.refl _ _⟩
 case round =>
  obtain ⟨j, hj, rfl, ⟨b, d, rfl, hown⟩, hb⟩ := hrel
  have hsz := hb.size
  by_cases hlt : j < l.length
  ·obtain ⟨g, o, ta, tn, tc, hga, hg, hc0, hc1⟩ := hin.out wr hb j hlt
   subst hga
   have hst : l.take (j + 1) = l.take j ++ [l[j]] := List.take_succ_eq_append_getElem hlt
   have hlen : (l.take j).length = j := by rw [List.length_take]; omega
   have hltI : (j : Int) < (l.length : Int) := by omega
   generalize l[j] = x at *
   generalize l.take j = L at *
   generalize hL' : l.take (j + 1) = L' at *
   replace hL' := Hd hL'
   have hb2 := hb.alloc hsz (.cells #[.int .i64 x, .slice ta tn tc] 65)
   have hown2 := hown.alloc (.cells #[.int .i64 x, .slice ta tn tc] 65)
   replace hst := Hd hst
   replace hown := Hd hown
   replace hb := Hd hb
   replace hb2 := Hd hb2
   replace hown2 := Hd hown2
   replace hlen := Hd hlen
   go_upto_region 5 with fail
   obtain ⟨W, hW⟩ : ∃ W, wr.alloc (.cells #[.int .i64 x, .slice ta tn tc] 65) = W := ⟨_, rfl⟩
   have hnc : W.cell? ⟨wr.heap.size, 0, none⟩ = some (.int .i64 x) := by rw [← hW]; exact (IsC.new wr 65 #[.int .i64 x, .slice ta tn tc]).cell 0
   rw [hW] at hb2 hown2
   rw [hW]
   replace hW := Hd hW
   have hsz2 := hb2.out.size
   have hsrc := src_one W x
   go_wp2_with (at_builtin; refine wpList_append_own_src _ rfl (.tmp 15) (.tmp 18) 105 105 rfl w.heap.size 3 i0 (.int .i64 0) 1 8 Tryz.underlying105 hi hz0 hz1 hz2 rfl rfl (hown2.out.alloc _) rfl hsrc ?_ ?_ ?_ ?_)
   ·have := hlen.out; unfold maxLen; omega
   ·have := hlen.out; omega
   ·(try rw [size_alloc]); omega
   intro b' c' w2 hown3 hg1
   have hfin := Hd (Below.grown (hb2.out.alloc hsz2 (.cells #[.int .i64 x] 3)) hg1 (by rw [size_alloc]; omega) (fun q hq => by have := World.ownsRow.lt hown2.out q hq; omega))
   rw [show ([.int .i64 x] : List Value) = iv [x] from rfl, ← iv_append] at hown3
   have hown4 : OwnI w2 w.heap.size b' c' (L ++ [x]) := by
    unfold OwnI
    rw [List.length_append]
    exact hown3
   replace hown4 := Hd hown4
   clear hown3 hg1 hsrc hown hown2 hb hb2
   go_wp2_with fail
   go_roundw
   case rel => exact ⟨j + 1, by omega, by go_num, ⟨b', c', by rw [hL'.out, hst.out, List.length_append]; rfl, by rw [hL'.out, hst.out]; exact hown4.out⟩, hfin.out⟩
   case measure => simp [intOf]; omega
  ·obtain rfl : j = l.length := by omega
   rw [List.take_length] at hown ⊢
   have co := of_c l (by omega) b d wr hown.in
   have hsl := setOf_lt l
   have hr := hR.out
   unfold partsF at hr
   cases hok : okL l with
   | false =>
     rw [hok] at hr co
     rw [if_neg (by decide)] at hr co
     rw [if_neg (by decide)] at co
     subst hr
     clear hR hown hok
     replace hb := Hd hb
     replace co := Hd co
     go_wp2_with fail
     refine co.out.mono ?_
     rintro e w2 ⟨rfl, hb2⟩
     have hfin := below_up hb.out hsz hb2
     go_wp2_with fail
     (try simp only [Exit.inBlock, Exit.then])
     refine bodyPost_ret (by simp [results, Tryz.results52, go_sem]; try rfl) rfl ?_
     exact ⟨rfl, hfin⟩
   | true =>
     rw [hok] at hr co
     rw [if_pos rfl] at hr co
     rw [if_pos rfl] at co
     have cl := len_c (setOf l) hsl
     generalize setOf l = S at *
     by_cases hn : (ids S).length = l.length
     ·rw [if_pos hn] at hr
      rw [hn] at cl
      subst hr
      have e1 : ((l.length : Int) != (l.length : Int)) = false := by simp
      clear hR hown hok hn
      replace hb := Hd hb
      replace co := Hd co
      replace cl := Hd cl
      go_wp2_with fail
      refine co.out.mono ?_
      rintro e w2 ⟨rfl, hb2⟩
      have hfin := below_up hb.out hsz hb2
      have hq := hfin.size
      go_wp2_with fail
      refine (cl.out.on _).mono ?_
      rintro e w3 ⟨rfl, hb3⟩
      have hfin2 := below_up hfin hq hb3
      go_wp2_with fail
      (try simp only [Exit.inBlock, Exit.then])
      refine bodyPost_ret (by simp [results, Tryz.results52, go_sem]; try rfl) rfl ?_
      exact ⟨rfl, hfin2⟩
     ·rw [if_neg hn] at hr
      subst hr
      generalize (ids S).length = q at *
      have e1 : ((q : Int) != (l.length : Int)) = true := bne_iff_ne.2 (by omega)
      clear hR hown hok hn
      replace hb := Hd hb
      replace co := Hd co
      replace cl := Hd cl
      go_wp2_with fail
      refine co.out.mono ?_
      rintro e w2 ⟨rfl, hb2⟩
      have hfin := below_up hb.out hsz hb2
      have hq := hfin.size
      go_wp2_with fail
      refine (cl.out.on _).mono ?_
      rintro e w3 ⟨rfl, hb3⟩
      have hfin2 := below_up hfin hq hb3
      go_wp2_with fail
      (try simp only [Exit.inBlock, Exit.then])
      refine bodyPost_ret (by simp [results, Tryz.results52, go_sem]; try rfl) rfl ?_
      exact ⟨rfl, hfin2⟩
/-- slices.Equal of rows of ints -/
theorem eqInts_c (l m : List Int) (hl : l.length ≤ 100000) (hm : m.length ≤ 100000) (a b : Option Addr) (c d : Nat) (w : World) (hin : InI w a l) (hjn : InI w b m) :
 Calls Tryz.prog 53 #[.slice a l.length c, .slice b m.length d] w fun e w' => e = .returned (.bool (decide (l = m))) ∧ Below w.heap.size w w' := by
 by_cases hlen : l.length = m.length
 ·rcases Nat.eq_zero_or_pos l.length with h0 | h0
  ·have e1 : l = [] := List.eq_nil_of_length_eq_zero h0
   have e2 : m = [] := List.eq_nil_of_length_eq_zero (by omega)
   subst e1 e2
   exact (Any.slices_Equal_int_empty Tryz.lays111 a b c 0 d w (by decide)).mono fun e w' ⟨h1, h2⟩ => ⟨h1, by rw [h2]; exact Below.refl _ _⟩
  ·obtain ⟨g, o, rfl, _, _⟩ := hin.at 0 h0
   obtain ⟨g', o', rfl, _, _⟩ := hjn.at 0 (by omega)
   refine (Any.slices_Equal_int Tryz.lays111 g o l.length c g' o' m.length d l m w (Nat.le_refl _) (Nat.le_refl _) (by omega) (by omega) ?_ ?_).mono fun e w' ⟨h1, q, h2⟩ => ⟨?_, by rw [h2]; exact below_drewN (Below.refl _ _)⟩
   ·intro j hj
    obtain ⟨g2, o2, e, _, hc⟩ := hin.at j hj
    cases e
    rw [hc]
    simp [hj]
   ·intro j hj
    obtain ⟨g2, o2, e, _, hc⟩ := hjn.at j hj
    cases e
    rw [hc]
    simp [hj]
   ·rw [h1, List.take_length, List.take_length]
    congr 2
    rw [Bool.eq_iff_iff]
    simp
 ·exact (Any.slices_Equal_int_lens Tryz.lays111 a b l.length c m.length d w hlen).mono fun e w' ⟨h1, h2⟩ => ⟨by rw [h1, decide_eq_false (fun e => hlen (by rw [e]))], by rw [h2]; exact Below.refl _ _⟩
namespace Tl
def idsOf (ps : List PartD) : List Int := ps.map (·.C)
theorem idsOf_get (ps : List PartD) (j : Nat) (hj : j < ps.length) (h : j < (idsOf ps).length) : (idsOf ps)[j] = ps[j].C := List.getElem_map (fun p : PartD => p.C)
/-- parts' components rise, from 1 to 24 -/
def risF (ps : List PartD) : Bool := decide ((partsF (idsOf ps)).2 = 0) && decide (idsOf ps = ids (partsF (idsOf ps)).1)
def isPartsF (ps : List PartD) : Bool := risF ps && !(ps.any fun p => !isPartF p.V)
theorem partsF_lt (l : List Int) : (partsF l).1 < 4294967296 := by
 unfold partsF
 split
 ·split
  ·exact setOf_lt l
  ·decide
 ·decide
end Tl
theorem rising_c (ps : List PartD) (hs : Small ps) (hL0 : ps.length ≤ 100000) (s : Value) (w : World) (hin0 : InS w s ps) :
 Calls Tryz.prog 103 #[s] w fun e w' => e = .returned (.bool (risF ps)) ∧ Below w.heap.size w w' := by
 obtain ⟨i0, hi, hz0, hz1, hz2⟩ := info_parts infoInt
 have cP := partsS_c ps hL0 s w hin0
 have hlt32 := partsF_lt (idsOf ps)
 change Calls _ _ _ _ (fun e w' => e = .returned (.tuple #[.int .u32 (((partsF (idsOf ps)).1 : Nat) : Int), .int .i64 (partsF (idsOf ps)).2]) ∧ _) at cP
 unfold risF
 obtain ⟨l, hlp⟩ : ∃ l, idsOf ps = l := ⟨_, rfl⟩
 rw [hlp] at cP hlt32
 rw [hlp]
 have hL : l.length ≤ 100000 := by rw [← hlp]; unfold idsOf; rw [List.length_map]; exact hL0
 obtain ⟨a, c, rfl, _⟩ := id hin0
 have hpl : ps.length = l.length := by rw [← hlp]; unfold idsOf; rw [List.length_map]
 rw [hpl] at hin0 cP ⊢
 have hin : ∀ wr, Below w.heap.size w wr → ∀ j (hj : j < l.length), ∃ g o ta tn tc, a = some ⟨g, o, none⟩ ∧ g < wr.heap.size ∧ wr.cell? ⟨g, o + j * 2, none⟩ = some (.int .i64 l[j]) ∧ wr.cell? ⟨g, o + j * 2 + 1, none⟩ = some (.slice ta tn tc) := by
  intro wr hb j hj
  obtain ⟨g, o, t, h1, h2, h3, h4, h5⟩ := (hin0.below hb).at j (by omega)
  obtain ⟨ta, tc, rfl, _⟩ := h5
  refine ⟨g, o, ta, _, tc, h1, h2, ?_, h4⟩
  subst hlp
  rw [idsOf_get ps j (by omega) hj]
  exact h3
 clear hlp hL0
 obtain ⟨S, hS⟩ : ∃ S, (partsF l).1 = S := ⟨_, rfl⟩
 obtain ⟨E, hE⟩ : ∃ E, (partsF l).2 = E := ⟨_, rfl⟩
 rw [hS, hE] at cP
 rw [hS] at hlt32
 rw [hS, hE]
 clear hS hE
 have cI := ids_c S hlt32
 have hIl := ids_le S
 generalize ids S = m at *
 replace cP := Hd cP
 replace cI := Hd cI
 replace hin := Hd hin
 obtain ⟨R, hR⟩ : ∃ R, (decide (E = 0) && decide (l = m)) = R := ⟨_, rfl⟩
 rw [hR]
 replace hR := Hd hR
 clear hin0 hpl hlt32
 go_enter Tryz.func103, Tryz.ntmps103
 go_wp2_with fail
 refine cP.out.mono ?_
 rintro e w1 ⟨rfl, hb1⟩
 replace hb1 := Hd hb1
 clear cP
 go_wp2_with fail
 have hs1 := hb1.out.size
 go_loopw [5, 15] (fun b i wr => ∃ j : Nat, j ≤ l.length ∧ i = .int .i64 j ∧ (∃ a c, b = .slice a (l.take j).length c ∧ OwnI wr w.heap.size a c (l.take j)) ∧ Below w.heap.size w wr) (fun _ i _ => l.length - (intOf i).toNat)
 case atStart => exact ⟨0, Nat.zero_le _, rfl, ⟨none, 0, rfl, OwnI.nil _ _⟩, hb1.out⟩
 case round =>
  obtain ⟨j, hj, rfl, ⟨b, d, rfl, hown⟩, hb⟩ := hrel
  have hsz := hb.size
  by_cases hlt : j < l.length
  ·obtain ⟨g, o, ta, tn, tc, hga, hg, hc0, hc1⟩ := hin.out wr hb j hlt
   subst hga
   have hst : l.take (j + 1) = l.take j ++ [l[j]] := List.take_succ_eq_append_getElem hlt
   have hlen : (l.take j).length = j := by rw [List.length_take]; omega
   have hltI : (j : Int) < (l.length : Int) := by omega
   generalize l[j] = x at *
   generalize l.take j = L at *
   generalize hL' : l.take (j + 1) = L' at *
   replace hL' := Hd hL'
   have hb2 := hb.alloc hsz (.cells #[.int .i64 x, .slice ta tn tc] 65)
   have hown2 := hown.alloc (.cells #[.int .i64 x, .slice ta tn tc] 65)
   replace hst := Hd hst
   replace hown := Hd hown
   replace hb := Hd hb
   replace hb2 := Hd hb2
   replace hown2 := Hd hown2
   replace hlen := Hd hlen
   go_upto_region 6 with fail
   obtain ⟨W, hW⟩ : ∃ W, wr.alloc (.cells #[.int .i64 x, .slice ta tn tc] 65) = W := ⟨_, rfl⟩
   have hnc : W.cell? ⟨wr.heap.size, 0, none⟩ = some (.int .i64 x) := by rw [← hW]; exact (IsC.new wr 65 #[.int .i64 x, .slice ta tn tc]).cell 0
   rw [hW] at hb2 hown2
   rw [hW]
   replace hW := Hd hW
   have hsz2 := hb2.out.size
   have hsrc := src_one W x
   go_wp2_with (at_builtin; refine wpList_append_own_src _ rfl (.tmp 19) (.tmp 22) 105 105 rfl w.heap.size 3 i0 (.int .i64 0) 1 8 Tryz.underlying105 hi hz0 hz1 hz2 rfl rfl (hown2.out.alloc _) rfl hsrc ?_ ?_ ?_ ?_)
   ·have := hlen.out; unfold maxLen; omega
   ·have := hlen.out; omega
   ·(try rw [size_alloc]); omega
   intro b' c' w2 hown3 hg1
   have hfin := Hd (Below.grown (hb2.out.alloc hsz2 (.cells #[.int .i64 x] 3)) hg1 (by rw [size_alloc]; omega) (fun q hq => by have := World.ownsRow.lt hown2.out q hq; omega))
   rw [show ([.int .i64 x] : List Value) = iv [x] from rfl, ← iv_append] at hown3
   have hown4 : OwnI w2 w.heap.size b' c' (L ++ [x]) := by
    unfold OwnI
    rw [List.length_append]
    exact hown3
   replace hown4 := Hd hown4
   clear hown3 hg1 hsrc hown hown2 hb hb2
   go_wp2_with fail
   go_roundw
   case rel => exact ⟨j + 1, by omega, by go_num, ⟨b', c', by rw [hL'.out, hst.out, List.length_append]; rfl, by rw [hL'.out, hst.out]; exact hown4.out⟩, hfin.out⟩
   case measure => simp [intOf]; omega
  ·obtain rfl : j = l.length := by omega
   rw [List.take_length] at hown ⊢
   clear hin
   by_cases hE : E = 0
   ·have hR2 := hR.out
    rw [decide_eq_true hE, Bool.true_and] at hR2
    replace hR2 := Hd hR2
    clear hR
    have e1 : (E == 0) = true := beq_iff_eq.2 hE
    clear hE
    replace hb := Hd hb
    replace hown := Hd hown
    go_wp2_with fail
    refine (cI.out.on _).mono ?_
    rintro e w2 ⟨a2, c2, rfl, hown2, hb2⟩
    have hb3 := below_up hb.out hsz hb2
    have hs3 := hb3.size
    have cq := eqInts_c m l (by omega) hL a2 b c2 d w2 hown2.in (hown.out.in.below hb2)
    clear hb2 hb hown hown2 cI
    replace hb3 := Hd hb3
    replace cq := Hd cq
    go_wp2_with fail
    refine cq.out.mono ?_
    rintro e w3 ⟨rfl, hb4⟩
    have hb5 := Hd (below_up hb3.out hs3 hb4)
    clear hb4 hb3
    go_wp2_with fail
    go_ret
    exact ⟨by rw [← hR2.out, show decide (l = m) = decide (m = l) from by rw [decide_eq_decide]; exact eq_comm]; rfl, hb5.out⟩
   ·have hR2 := hR.out
    rw [decide_eq_false hE, Bool.false_and] at hR2
    subst hR2
    clear hR
    have e1 : (E == 0) = false := beq_eq_false_iff_ne.2 hE
    clear hE hown
    replace hb := Hd hb
    go_wp2_with fail
    go_ret
    exact ⟨rfl, hb.out⟩
theorem isPartsS_c (ps : List PartD) (hs : Small ps) (hL0 : ps.length ≤ 100000) (s : Value) (w : World) (hin0 : InS w s ps) :
 Calls Tryz.prog 24 #[s] w fun e w' => e = .returned (.bool (isPartsF ps)) ∧ Below w.heap.size w w' := by
 obtain ⟨i0, hi, hz0, hz1, hz2⟩ := info_parts infoInt
 have cP := partsS_c ps hL0 s w hin0
 have cC := fun w' (hb : Below w.heap.size w w') => containsS_c ps hs s w' (hin0.below hb)
 unfold fnv at cC
 have hlt32 := partsF_lt (idsOf ps)
 change Calls _ _ _ _ (fun e w' => e = .returned (.tuple #[.int .u32 (((partsF (idsOf ps)).1 : Nat) : Int), .int .i64 (partsF (idsOf ps)).2]) ∧ _) at cP
 unfold isPartsF risF
 obtain ⟨l, hlp⟩ : ∃ l, idsOf ps = l := ⟨_, rfl⟩
 rw [hlp] at cP hlt32
 rw [hlp]
 have hL : l.length ≤ 100000 := by rw [← hlp]; unfold idsOf; rw [List.length_map]; exact hL0
 obtain ⟨a, c, rfl, _⟩ := id hin0
 have hpl : ps.length = l.length := by rw [← hlp]; unfold idsOf; rw [List.length_map]
 rw [hpl] at hin0 cP cC ⊢
 have hin : ∀ wr, Below w.heap.size w wr → ∀ j (hj : j < l.length), ∃ g o ta tn tc, a = some ⟨g, o, none⟩ ∧ g < wr.heap.size ∧ wr.cell? ⟨g, o + j * 2, none⟩ = some (.int .i64 l[j]) ∧ wr.cell? ⟨g, o + j * 2 + 1, none⟩ = some (.slice ta tn tc) := by
  intro wr hb j hj
  obtain ⟨g, o, t, h1, h2, h3, h4, h5⟩ := (hin0.below hb).at j (by omega)
  obtain ⟨ta, tc, rfl, _⟩ := h5
  refine ⟨g, o, ta, _, tc, h1, h2, ?_, h4⟩
  subst hlp
  rw [idsOf_get ps j (by omega) hj]
  exact h3
 replace cC := Hd cC
 clear hlp hL0
 obtain ⟨S, hS⟩ : ∃ S, (partsF l).1 = S := ⟨_, rfl⟩
 obtain ⟨E, hE⟩ : ∃ E, (partsF l).2 = E := ⟨_, rfl⟩
 rw [hS, hE] at cP
 rw [hS] at hlt32
 rw [hS, hE]
 clear hS hE
 have cI := ids_c S hlt32
 have hIl := ids_le S
 generalize ids S = m at *
 replace cP := Hd cP
 replace cI := Hd cI
 replace hin := Hd hin
 obtain ⟨R, hR⟩ : ∃ R, (decide (E = 0) && decide (l = m) && !(ps.any fun p => !isPartF p.V)) = R := ⟨_, rfl⟩
 rw [hR]
 replace hR := Hd hR
 clear hin0 hpl hlt32
 go_enter Tryz.func24, Tryz.ntmps24
 go_wp2_with fail
 refine cP.out.mono ?_
 rintro e w1 ⟨rfl, hb1⟩
 replace hb1 := Hd hb1
 clear cP
 go_wp2_with fail
 have hs1 := hb1.out.size
 go_loopw [5, 15] (fun b i wr => ∃ j : Nat, j ≤ l.length ∧ i = .int .i64 j ∧ (∃ a c, b = .slice a (l.take j).length c ∧ OwnI wr w.heap.size a c (l.take j)) ∧ Below w.heap.size w wr) (fun _ i _ => l.length - (intOf i).toNat)
 case atStart => exact ⟨0, Nat.zero_le _, rfl, ⟨none, 0, rfl, OwnI.nil _ _⟩, hb1.out⟩
 case round =>
  obtain ⟨j, hj, rfl, ⟨b, d, rfl, hown⟩, hb⟩ := hrel
  have hsz := hb.size
  by_cases hlt : j < l.length
  ·obtain ⟨g, o, ta, tn, tc, hga, hg, hc0, hc1⟩ := hin.out wr hb j hlt
   subst hga
   have hst : l.take (j + 1) = l.take j ++ [l[j]] := List.take_succ_eq_append_getElem hlt
   have hlen : (l.take j).length = j := by rw [List.length_take]; omega
   have hltI : (j : Int) < (l.length : Int) := by omega
   generalize l[j] = x at *
   generalize l.take j = L at *
   generalize hL' : l.take (j + 1) = L' at *
   replace hL' := Hd hL'
   have hb2 := hb.alloc hsz (.cells #[.int .i64 x, .slice ta tn tc] 65)
   have hown2 := hown.alloc (.cells #[.int .i64 x, .slice ta tn tc] 65)
   replace hst := Hd hst
   replace hown := Hd hown
   replace hb := Hd hb
   replace hb2 := Hd hb2
   replace hown2 := Hd hown2
   replace hlen := Hd hlen
   go_upto_region 6 with fail
   obtain ⟨W, hW⟩ : ∃ W, wr.alloc (.cells #[.int .i64 x, .slice ta tn tc] 65) = W := ⟨_, rfl⟩
   have hnc : W.cell? ⟨wr.heap.size, 0, none⟩ = some (.int .i64 x) := by rw [← hW]; exact (IsC.new wr 65 #[.int .i64 x, .slice ta tn tc]).cell 0
   rw [hW] at hb2 hown2
   rw [hW]
   replace hW := Hd hW
   have hsz2 := hb2.out.size
   have hsrc := src_one W x
   go_wp2_with (at_builtin; refine wpList_append_own_src _ rfl (.tmp 19) (.tmp 22) 105 105 rfl w.heap.size 3 i0 (.int .i64 0) 1 8 Tryz.underlying105 hi hz0 hz1 hz2 rfl rfl (hown2.out.alloc _) rfl hsrc ?_ ?_ ?_ ?_)
   ·have := hlen.out; unfold maxLen; omega
   ·have := hlen.out; omega
   ·(try rw [size_alloc]); omega
   intro b' c' w2 hown3 hg1
   have hfin := Hd (Below.grown (hb2.out.alloc hsz2 (.cells #[.int .i64 x] 3)) hg1 (by rw [size_alloc]; omega) (fun q hq => by have := World.ownsRow.lt hown2.out q hq; omega))
   rw [show ([.int .i64 x] : List Value) = iv [x] from rfl, ← iv_append] at hown3
   have hown4 : OwnI w2 w.heap.size b' c' (L ++ [x]) := by
    unfold OwnI
    rw [List.length_append]
    exact hown3
   replace hown4 := Hd hown4
   clear hown3 hg1 hsrc hown hown2 hb hb2
   go_wp2_with fail
   go_roundw
   case rel => exact ⟨j + 1, by omega, by go_num, ⟨b', c', by rw [hL'.out, hst.out, List.length_append]; rfl, by rw [hL'.out, hst.out]; exact hown4.out⟩, hfin.out⟩
   case measure => simp [intOf]; omega
  ·obtain rfl : j = l.length := by omega
   rw [List.take_length] at hown ⊢
   clear hin
   by_cases hE : E = 0
   ·have hR2 := hR.out
    rw [decide_eq_true hE, Bool.true_and] at hR2
    replace hR2 := Hd hR2
    clear hR
    have e1 : (E == 0) = true := beq_iff_eq.2 hE
    clear hE
    replace hb := Hd hb
    replace hown := Hd hown
    go_wp2_with fail
    refine (cI.out.on _).mono ?_
    rintro e w2 ⟨a2, c2, rfl, hown2, hb2⟩
    have hb3 := below_up hb.out hsz hb2
    have hs3 := hb3.size
    have cq := eqInts_c l m hL (by omega) b a2 d c2 w2 (hown.out.in.below hb2) hown2.in
    clear hb2 hb hown hown2 cI
    replace hb3 := Hd hb3
    replace cq := Hd cq
    go_wp2_with fail
    refine cq.out.mono ?_
    rintro e w3 ⟨rfl, hb4⟩
    have hb5 := below_up hb3.out hs3 hb4
    have hs5 := hb5.size
    have cC1 := Hd (cC.out w3 hb5)
    clear hb4 hb3 cC
    generalize decide (l = m) = g1 at *
    generalize (ps.any fun p => !isPartF p.V) = g2 at *
    replace hb5 := Hd hb5
    cases g1 with
    | false =>
      go_wp2_with fail
      go_ret
      exact ⟨by rw [← hR2.out]; rfl, hb5.out⟩
    | true =>
      go_wp2_with fail
      refine cC1.out.mono ?_
      rintro e w4 ⟨rfl, hb6⟩
      have hb7 := Hd (below_up hb5.out hs5 hb6)
      clear hb6 hb5 cC1
      go_wp2_with fail
      go_ret
      exact ⟨by rw [← hR2.out]; rfl, hb7.out⟩
   ·have hR2 := hR.out
    rw [decide_eq_false hE, Bool.false_and, Bool.false_and] at hR2
    subst hR2
    clear hR
    have e1 : (E == 0) = false := beq_eq_false_iff_ne.2 hE
    clear hE hown
    replace hb := Hd hb
    go_wp2_with fail
    go_ret
    exact ⟨rfl, hb.out⟩
namespace Tl
def rgo (prev : Int) : List PartD → Bool
 | [] => true
 | p :: r => (decide (1 ≤ p.C ∧ p.C ≤ 24 ∧ prev < p.C) && isPartF p.V) && rgo p.C r
def prevC (ps : List PartD) : Nat → Int
 | 0 => 0
 | j + 1 => match ps[j]? with
   | some p => p.C
   | none => 0
theorem rgo_step {ps : List PartD} {j : Nat} (h : j < ps.length) : rgo (prevC ps j) (ps.drop j) = ((decide (1 ≤ ps[j].C ∧ ps[j].C ≤ 24 ∧ prevC ps j < ps[j].C) && isPartF ps[j].V) && rgo (prevC ps (j + 1)) (ps.drop (j + 1))) := by
 rw [List.drop_eq_getElem_cons h]
 have : prevC ps (j + 1) = ps[j].C := by
  show (match ps[j]? with | some p => p.C | none => 0) = _
  rw [List.getElem?_eq_getElem h]
 rw [this]
 rfl
theorem rgo_iff : ∀ (ps : List PartD) (b : Int), rgo b ps = true ↔ ((∀ p ∈ ps, b < p.C) ∧ (idsOf ps).Pairwise (· < ·) ∧ ∀ p ∈ ps, (1 ≤ p.C ∧ p.C ≤ 24) ∧ isPartF p.V = true)
 | [], b => by simp [rgo, idsOf]
 | p :: r, b => by
   rw [rgo, Bool.and_eq_true, Bool.and_eq_true, decide_eq_true_iff, rgo_iff r p.C]
   unfold idsOf
   rw [List.map_cons, List.pairwise_cons]
   simp only [List.mem_cons, List.mem_map, forall_eq_or_imp]
   constructor
   ·rintro ⟨⟨⟨h1, h2, h3⟩, h4⟩, h5, h6, h7⟩
    refine ⟨⟨h3, fun q hq => ?_⟩, ⟨?_, h6⟩, ⟨⟨h1, h2⟩, h4⟩, h7⟩
    ·have := h5 q hq; omega
    ·rintro c ⟨q, hq, rfl⟩; exact h5 q hq
   ·rintro ⟨⟨h1, h2⟩, ⟨h3, h4⟩, ⟨⟨h5, h6⟩, h7⟩, h8⟩
    exact ⟨⟨⟨h5, h6, h1⟩, h7⟩, fun q hq => h3 _ ⟨q, hq, rfl⟩, h4, h8⟩
theorem idsFrom_sorted (s : Nat) : ∀ n k, (idsFrom s k n).Pairwise (· < ·) ∧ ∀ i ∈ idsFrom s k n, (k : Int) ≤ i
 | 0, k => by simp [idsFrom]
 | n + 1, k => by
   obtain ⟨h1, h2⟩ := idsFrom_sorted s n (k + 1)
   rw [idsFrom]
   split
   ·rw [List.singleton_append]
    refine ⟨List.pairwise_cons.2 ⟨fun i hi => ?_, h1⟩, fun i hi => ?_⟩
    ·have := h2 i hi; omega
    ·rcases List.mem_cons.1 hi with rfl | hi
     ·exact Int.le_refl _
     ·have := h2 i hi; omega
   ·rw [List.nil_append]
    exact ⟨h1, fun i hi => by have := h2 i hi; omega⟩
theorem ids_sorted (s : Nat) : (ids s).Pairwise (· < ·) := (idsFrom_sorted s 24 1).1
theorem rgo_parts (ps : List PartD) : rgo 0 ps = isPartsF ps := by
 rw [Bool.eq_iff_iff, rgo_iff]
 unfold isPartsF risF
 rw [Bool.and_eq_true, Bool.and_eq_true, decide_eq_true_iff, decide_eq_true_iff, Bool.not_eq_true', List.any_eq_false]
 have hmem : ∀ p ∈ ps, p.C ∈ idsOf ps := fun p hp => List.mem_map.2 ⟨p, hp, rfl⟩
 constructor
 ·rintro ⟨_, h2, h3⟩
  have hr : ∀ i ∈ idsOf ps, 1 ≤ i ∧ i ≤ 24 := fun i hi => by
   obtain ⟨p, hp, rfl⟩ := List.mem_map.1 hi
   exact (h3 p hp).1
  have hids := ids_set h2 hr
  have hok : okL (idsOf ps) = true := List.all_eq_true.2 fun i hi => by
   obtain ⟨h4, h5⟩ := hr i hi
   unfold isId
   rw [decide_eq_true h4, decide_eq_true h5]
   rfl
  have hp : partsF (idsOf ps) = (setOf (idsOf ps), 0) := by
   unfold partsF
   rw [if_pos hok, if_pos (by rw [hids])]
  rw [hp]
  exact ⟨⟨rfl, hids.symm⟩, fun p hp => by rw [(h3 p hp).2]; decide⟩
 ·rintro ⟨⟨h1, h2⟩, h3⟩
  have hs : (idsOf ps).Pairwise (· < ·) := by rw [h2]; exact ids_sorted _
  have hr : ∀ i ∈ idsOf ps, 1 ≤ i ∧ i ≤ 24 := fun i hi => by rw [h2] at hi; exact ids_id hi
  refine ⟨fun p hp => by have := hr _ (hmem p hp); omega, hs, fun p hp => ⟨hr _ (hmem p hp), ?_⟩⟩
  have := h3 p hp
  simpa using this
end Tl
/-- what the library's variables hold, the table of powers too -/
def GlobT (w : World) : Prop := Glob w ∧ Lib.TabIs Tryz.prog w "internal/strconv.uint64pow10" .u64 Lib.pow10Tab
theorem pow_named : ∃ g, Tryz.prog.globalNamed "internal/strconv.uint64pow10" = some g := by
 have h : (Tryz.prog.globalNamed "internal/strconv.uint64pow10").isSome = true := by kernel_rfl
 exact Option.isSome_iff_exists.1 h
theorem GlobT.on {w w' : World} (h : GlobT w) (hb : Below w.heap.size w w') : GlobT w' := by
 refine ⟨h.1.on hb, ?_⟩
 obtain ⟨g, hg⟩ := pow_named
 have h2 := h.2
 unfold Lib.TabIs World.var? at h2 ⊢
 rw [hg] at h2 ⊢
 simp only [Option.bind_some] at h2 ⊢
 have hlt : g < w.heap.size := by
  rcases Nat.lt_or_ge g w.heap.size with h' | h'
  ·exact h'
  ·rw [Array.getElem?_eq_none h'] at h2; cases h2
 rw [hb.block g hlt]
 exact h2
theorem GlobT.drewN {w : World} {n : Nat} (h : GlobT w) : GlobT (w.drewN n) := h.on (below_drewN (Below.refl _ _))
/-- strconv.Itoa -/
theorem itoaT_c (n : Int) (hn : i64 n) (w : World) (hg : GlobT w) : Calls Tryz.prog 66 #[.int .i64 n] w fun e w' => e = .returned (.string (text (Lib.itoa n))) ∧ Below w.heap.size w w' :=
 (Any.strconv_Itoa Tryz.laysM171 n hn.1 hn.2 w hg.2).mono fun e w' ⟨h1, k, os, h2⟩ => ⟨h1, by rw [h2]; exact Go.Lib.below_grow _ w (Nat.le_refl _) k os⟩
/-- a slice of texts of the call's own -/
def OwnS (w : World) (B : Nat) (a : Option Addr) (c : Nat) (l : List (List UInt8)) : Prop := w.ownsRow B 9 1 (.slice a l.length c) l.length (sv l)
theorem sv_append (l m : List (List UInt8)) : sv (l ++ m) = sv l ++ sv m := by unfold sv; rw [List.map_append]
theorem OwnS.alloc {w : World} {B : Nat} {a : Option Addr} {c : Nat} {l : List (List UInt8)} (h : OwnS w B a c l) (o : Obj) : OwnS (w.alloc o) B a c l := World.ownsRow.alloc h o
theorem OwnS.below {w w' : World} {B : Nat} {a : Option Addr} {c : Nat} {l : List (List UInt8)} (h : OwnS w B a c l) (hb : Below w.heap.size w w') : OwnS w' B a c l :=
 World.ownsRow.kept (row := none) h ⟨hb.os, hb.tape, hb.output, hb.size, fun k hk _ => hb.block k hk⟩ (by cases (Value.slice a l.length c).ownBlock <;> simp)
theorem OwnS.nil (w : World) (B : Nat) : OwnS w B none 0 [] := World.ownsRow_nil w B 9 1
theorem OwnS.mono {w : World} {B B' : Nat} {a : Option Addr} {c : Nat} {l : List (List UInt8)} (h : OwnS w B a c l) (hB : B' ≤ B) : OwnS w B' a c l := by
 refine ⟨h.1, ?_⟩
 rcases h.2 with h' | ⟨g, cap, cur, h1, h2, h3⟩
 ·exact .inl h'
 ·exact .inr ⟨g, cap, cur, h1, by omega, h3⟩
/-- texts that can be read at a slice -/
def InT (w : World) (a : Option Addr) (c : Nat) (l : List (List UInt8)) : Prop := l.length ≤ c ∧ (l = [] ∨ ∃ g o, a = some ⟨g, o, none⟩ ∧ g < w.heap.size ∧ ∀ j (hj : j < l.length), w.cell? ⟨g, o + j, none⟩ = some (.string (text l[j])))
theorem InT.below {w w' : World} {a : Option Addr} {c : Nat} {l : List (List UInt8)} (h : InT w a c l) (hb : Below w.heap.size w w') : InT w' a c l := by
 refine ⟨h.1, ?_⟩
 rcases h.2 with rfl | ⟨g, o, rfl, hg, hc⟩
 ·exact .inl rfl
 ·exact .inr ⟨g, o, rfl, Nat.lt_of_lt_of_le hg hb.size, fun j hj => (hb.cell (p := ⟨g, o + j, none⟩) hg).trans (hc j hj)⟩
theorem InT.at {w : World} {a : Option Addr} {c : Nat} {l : List (List UInt8)} (h : InT w a c l) (j : Nat) (hj : j < l.length) : ∃ g o, a = some ⟨g, o, none⟩ ∧ g < w.heap.size ∧ w.cell? ⟨g, o + j, none⟩ = some (.string (text l[j])) := by
 rcases h.2 with rfl | ⟨g, o, h1, h2, h3⟩
 ·cases hj
 ·exact ⟨g, o, h1, h2, h3 j hj⟩
theorem sv_get (l : List (List UInt8)) (j : Nat) (hj : j < l.length) : (sv l)[j]? = some (.string (text l[j])) := by
 unfold sv
 rw [List.getElem?_map, List.getElem?_eq_getElem hj]
 rfl
theorem OwnS.in {w : World} {B : Nat} {a : Option Addr} {c : Nat} {l : List (List UInt8)} (h : OwnS w B a c l) : InT w a c l := by
 rcases h.2 with ⟨hv, hn⟩ | ⟨g, cap, cur, hv, hb, hg, hc⟩
 ·have : l = [] := List.eq_nil_of_length_eq_zero hn
  subst this
  exact ⟨Nat.zero_le _, .inl rfl⟩
 ·obtain ⟨rfl, rfl⟩ : a = some ⟨g, 0, none⟩ ∧ c = cap := by cases hv; exact ⟨rfl, rfl⟩
  refine ⟨hc.1, .inr ⟨g, 0, rfl, lt_of_block hg, fun j hj => ?_⟩⟩
  have h1 := World.ownsRow.cells h (g := g) rfl j _ (sv_get l j hj)
  rw [show (⟨g, 0, none⟩ : Addr).add j = ⟨g, 0 + j, none⟩ by unfold Addr.add; split <;> simp_all] at h1
  exact h1
/-- strings.Join -/
theorem joinT_c (q : UInt8) (l : List (List UInt8)) (h0 : 0 < l.length) (hl : l.length ≤ 140737488355328) (hj : (Lib.join l [q]).length ≤ 140737488355328) (a : Option Addr) (c : Nat) (w : World) (h : InT w a c l) :
 Calls Tryz.prog 34 #[.slice a l.length c, .string ⟨#[q]⟩] w fun e w' => e = .returned (.string (text (Lib.join l [q]))) ∧ Below w.heap.size w w' := by
 obtain ⟨hc, rfl | ⟨g, o, rfl, hg, hcell⟩⟩ := h
 ·cases h0
 ·have hcells : ∀ (j : Nat) x, (l.map text)[j]? = some x → w.cell? ⟨g, o + j, none⟩ = some (.string x) := fun j x hx => by
   rw [List.getElem?_map] at hx
   rcases Nat.lt_or_ge j l.length with hlt | hge
   ·rw [List.getElem?_eq_getElem hlt] at hx
    obtain rfl : text l[j] = x := by simpa using hx
    exact hcell j hlt
   ·rw [List.getElem?_eq_none hge] at hx
    cases hx
  have hm : ((l.map text).map (·.data.toList)) = l := by
   rw [List.map_map]
   have : ((fun x : ByteArray => x.data.toList) ∘ text) = id := by funext x; exact byts_text x
   rw [this, List.map_id]
  have hs : (⟨#[q]⟩ : ByteArray).data.toList = [q] := rfl
  have hJ := Any.strings_Join Tryz.lays156 Tryz.Builder_Extra_156 g o c (l.map text) ⟨#[q]⟩ w hcells hg (by rw [List.length_map]; omega) (by rw [List.length_map]; exact hc) (by rw [hm, hs]; omega)
  rw [hm, hs, List.length_map] at hJ
  exact hJ
theorem lens_le (k : Nat) (l : List (List UInt8)) (h : ∀ x ∈ l, x.length ≤ k) : Lib.lens l ≤ k * l.length := by
 induction l with
 | nil => exact Nat.zero_le _
 | cons x r ih =>
   have h1 := h x (List.mem_cons_self ..)
   have h2 := ih (fun y hy => h y (List.mem_cons_of_mem _ hy))
   unfold Lib.lens at *
   rw [List.map_cons, List.sum_cons, List.length_cons, Nat.mul_add]
   omega
theorem join_le (k : Nat) (q : UInt8) (l : List (List UInt8)) (h : ∀ x ∈ l, x.length ≤ k) : (Lib.join l [q]).length ≤ (k + 1) * l.length := by
 cases l with
 | nil => exact Nat.zero_le _
 | cons x r =>
   have h1 := h x (List.mem_cons_self ..)
   have h2 := lens_le k r (fun y hy => h y (List.mem_cons_of_mem _ hy))
   rw [Lib.join_cons, List.length_append, Lib.joinTail_length]
   simp only [List.length_cons, List.length_nil]
   have h3 : (k + 1) * (r.length + 1) = k * r.length + r.length + k + 1 := by rw [Nat.add_mul, Nat.mul_add]; omega
   omega
namespace Tl
theorem textF_len (x : WI) (ho : x.Ok) : (textF x).length ≤ 40 := by
 unfold textF
 split
 ·rw [List.length_append]
  have h : x.sz.toNat < 10 ^ 39 := by
   obtain ⟨o1, o2, o3, o4⟩ := ho
   unfold WI.sz
   have : (10 : Nat) ^ 39 = 1000000000000000000000000000000000000000 := by decide
   omega
  have := digs_len 38 x.sz.toNat h
  split <;> simp <;> omega
 ·simp
/-- a value's text -/
def valF (v : List WI) : List UInt8 := if v.length = 0 then [45] else Lib.join (v.map textF) [44]
theorem valF_len (v : List WI) (hv : ∀ x ∈ v, x.Ok) : (valF v).length ≤ 41 * v.length + 1 := by
 unfold valF
 split
 ·simp
 ·have := join_le 40 44 (v.map textF) (fun x hx => by
   obtain ⟨y, hy, rfl⟩ := List.mem_map.1 hx
   exact textF_len y (hv y hy))
  rw [List.length_map] at this
  omega
end Tl
theorem value_c (v : List WI) (hv : ∀ x ∈ v, x.Ok) (hL : v.length ≤ 1000000) (s : Value) (w : World) (hin : InV w s v) :
 Calls Tryz.prog 135 #[s] w fun e w' => e = .returned (.string (text (valF v))) ∧ Below w.heap.size w w' := by
 obtain ⟨i0, hi, hz0, hz1, hz2⟩ := info_parts infoStr
 obtain ⟨a0, c0, rfl, _⟩ := id hin
 have hvl := valF_len v hv
 obtain ⟨R, hR⟩ : ∃ R, valF v = R := ⟨_, rfl⟩
 rw [hR] at hvl ⊢
 unfold valF at hR
 by_cases h0 : v.length = 0
 ·rw [if_pos h0] at hR
  subst hR
  have e1 : ((v.length : Int) == 0) = true := by simp [h0]
  clear h0
  go_enter Tryz.func135, Tryz.ntmps135
  go_wp2_with fail
  go_ret
  exact ⟨rfl, Below.refl _ _⟩
 ·rw [if_neg h0] at hR
  have e1 : ((v.length : Int) == 0) = false := beq_eq_false_iff_ne.2 (by omega)
  replace hR := Hd hR
  replace hin := Hd hin
  replace hv := Hd hv
  go_enter Tryz.func135, Tryz.ntmps135
  go_wp2_with fail
  go_loopw [3, 11] (fun b i wr => ∃ j : Nat, j ≤ v.length ∧ i = .int .i64 j ∧ (∃ a c, b = .slice a ((v.take j).map textF).length c ∧ OwnS wr w.heap.size a c ((v.take j).map textF)) ∧ Below w.heap.size w wr) (fun _ i _ => v.length - (intOf i).toNat)
  case atStart => exact ⟨0, Nat.zero_le _, rfl, ⟨none, 0, rfl, OwnS.nil _ _⟩, Below.refl _ _⟩
  case round =>
   obtain ⟨j, hj, rfl, ⟨b, d, rfl, hown⟩, hb⟩ := hrel
   by_cases hlt : j < v.length
   ·obtain ⟨g, o, hga, hg, k0, k1, k2⟩ := (hin.out.below hb).at j hlt
    subst hga
    have hst : (v.take (j + 1)).map textF = (v.take j).map textF ++ [textF v[j]] := by
     rw [List.take_succ_eq_append_getElem hlt, List.map_append]
     rfl
    have hltI : (j : Int) < (v.length : Int) := by omega
    have ho := hv.out v[j] (List.getElem_mem hlt)
    generalize v[j] = x at *
    have hlen : ((v.take j).map textF).length = j := by rw [List.length_map, List.length_take]; omega
    generalize hL0 : (v.take j).map textF = L at *
    generalize hL1 : (v.take (j + 1)).map textF = L' at *
    have cT := fun w => wtext_c x ho w
    unfold wv at cT
    generalize textF x = t at *
    have hbz := hb.size
    have hba := hb.alloc hbz (.cells #[.bool x.n, .int .u64 x.h, .int .u64 x.l] 61)
    have hba2 := hba.size
    have hown1 := hown.alloc (.cells #[.bool x.n, .int .u64 x.h, .int .u64 x.l] 61)
    clear ho hL0 hown
    replace hL1 := Hd hL1
    replace cT := Hd cT
    replace hst := Hd hst
    replace hlen := Hd hlen
    replace hown1 := Hd hown1
    replace hb := Hd hb
    replace hba := Hd hba
    go_wp2_with fail
    refine (cT.out _).mono ?_
    rintro e w3 ⟨rfl, hb3⟩
    have hown2 := Hd (hown1.out.below hb3)
    have hb4 := Hd (below_up hba.out hba2 hb3)
    have hb4s := hb4.out.size
    clear hb3 hown1 hba hb
    have hsrc := src_str w3 (text t)
    go_wp2_with (at_builtin; refine wpList_append_own_src _ rfl (.tmp 15) (.tmp 18) 76 76 rfl w.heap.size 9 i0 (.string ⟨#[]⟩) 1 16 Tryz.underlying76 hi hz0 hz1 hz2 rfl rfl (hown2.out.alloc _) rfl hsrc ?_ ?_ ?_ ?_)
    ·have := hlen.out; unfold maxLen; omega
    ·have := hlen.out; omega
    ·(try rw [size_alloc]); omega
    intro b' c' w4 hown3 hg1
    have hfin := Hd (Below.grown (hb4.out.alloc hb4s (.cells #[.string (text t)] 9)) hg1 (by rw [size_alloc]; omega) (fun q hq => by have := World.ownsRow.lt hown2.out q hq; omega))
    rw [show ([.string (text t)] : List Value) = sv [t] from rfl, ← sv_append] at hown3
    have hown4 : OwnS w4 w.heap.size b' c' (L ++ [t]) := by
     unfold OwnS
     rw [List.length_append]
     exact hown3
    replace hown4 := Hd hown4
    clear hg1 hsrc hown3 hown2 hb4
    go_wp2_with fail
    go_roundw
    case rel => exact ⟨j + 1, by omega, by go_num, ⟨b', c', by rw [hL1.out, hst.out, List.length_append]; rfl, by rw [hL1.out, hst.out]; exact hown4.out⟩, hfin.out⟩
    case measure => simp [intOf]; omega
   ·obtain rfl : j = v.length := by omega
    rw [List.take_length] at hown ⊢
    have hjl : (Lib.join (v.map textF) [44]).length ≤ 140737488355328 := by rw [hR.out]; omega
    have cj := joinT_c 44 (v.map textF) (by rw [List.length_map]; omega) (by rw [List.length_map]; omega) hjl b d wr hown.in
    rw [List.length_map, hR.out] at cj
    have hbz := hb.size
    clear hown hjl
    replace cj := Hd cj
    replace hb := Hd hb
    go_wp2_with fail
    refine cj.out.mono ?_
    rintro e w5 ⟨rfl, hb5⟩
    have hfin2 := below_up hb.out hbz hb5
    go_wp2_with fail
    go_ret
    exact ⟨rfl, hfin2⟩
theorem cell_up {w w' : World} {b i : Nat} {v : Value} (h : w.cell? ⟨b, i, none⟩ = some v) (hb : Below w.heap.size w w') : w'.cell? ⟨b, i, none⟩ = some v :=
 (hb.cell (World.block_lt_of_cell? _ _ h)).trans h
theorem below_d {w w' : World} (h : Below w.heap.size w.drew w') : Below w.heap.size w w' := (below_drewed (Below.refl _ _)).trans h
namespace Tl
/-- a part's text -/
def partT (p : PartD) : List UInt8 := Lib.itoa p.C ++ [61] ++ valF p.V
theorem itoa_le {n : Int} (h : i64 n) : (Lib.itoa n).length ≤ 21 := Lib.itoa_length_le n h.1 h.2
theorem partT_len {p : PartD} (h : p.Ok) : (partT p).length ≤ 41 * p.V.length + 23 := by
 unfold partT
 have h1 := itoa_le (n := p.C) ⟨h.1, h.2.1⟩
 have h2 := valF_len p.V h.2.2
 rw [List.length_append, List.length_append]
 simp
 omega
end Tl
theorem text3 (a b : List UInt8) (q : UInt8) : text a ++ ⟨#[q]⟩ ++ text b = text (a ++ [q] ++ b) := by
 rw [show (⟨#[q]⟩ : ByteArray) = text [q] from rfl, text_append, text_append]
theorem part_c (p : PartD) (hp : p.Ok) (hL : p.V.length ≤ 1000000) (t : Value) (w : World) (hin : InV w t p.V) (hg : GlobT w) :
 Calls Tryz.prog 120 #[partv p.C t] w fun e w' => e = .returned (.string (text (partT p))) ∧ Below w.heap.size w w' := by
 obtain ⟨C, v⟩ := p
 obtain ⟨p0, p1, hv⟩ := hp
 dsimp only at *
 have hb0 := below1 w (.cells #[.int .i64 C, t] 65)
 have hbox := IsC.new w 65 #[.int .i64 C, t]
 have c0 := hbox.cell 0
 have c1 := hbox.cell 1
 have hin0 := hin.below hb0
 have hg0 := hg.on hb0
 have hsz := size_alloc w (.cells #[.int .i64 C, t] 65)
 obtain ⟨ta, tc, rfl, _⟩ := id hin
 unfold partv partT
 dsimp only
 have hl1 := itoa_le (n := C) ⟨p0, p1⟩
 have hl2 := valF_len v hv
 generalize hW : w.alloc (.cells #[.int .i64 C, .slice ta v.length tc] 65) = W at *
 have cI := itoaT_c C ⟨p0, p1⟩ W.drew (hg0.on (below_drewed (Below.refl _ _)))
 have cV := fun w4 (h : InV w4 (.slice ta v.length tc) v) => value_c v hv hL _ w4 h
 obtain ⟨A, hA⟩ : ∃ A, Lib.itoa C = A := ⟨_, rfl⟩
 obtain ⟨B, hB⟩ : ∃ B, valF v = B := ⟨_, rfl⟩
 rw [hA] at cI hl1
 rw [hB] at hl2
 simp only [hB] at cV
 rw [hA, hB]
 have hs1 := text_size A
 have hs2 := text_size B
 clear hA hB hbox hin hg hv hg0
 have e9 := text3 A B 61
 have n1 : ¬ 9223372036854775807 < A.length + 1 := by omega
 have n2 : ¬ 9223372036854775807 < A.length + 1 + B.length := by omega
 replace cI := Hd cI
 replace cV := Hd cV
 replace hin0 := Hd hin0
 replace hb0 := Hd hb0
 replace e9 := Hd e9
 replace hW := Hd hW
 go_enter Tryz.func120, Tryz.ntmps120
 go_wp2_with fail
 rw [hW.out]
 go_region_held3 (fun w1 => w1.cell? ⟨w.heap.size, 0, none⟩ = some (.int .i64 C) ∧ w1.cell? ⟨w.heap.size, 1, none⟩ = some (.slice ta v.length tc)) (go_keep)
  (first
    |(go_at_call 66
      refine Calls.mono cI.out ?_
      rintro e w4 ⟨rfl, hb4⟩
      have y0 := cell_up c0 (below_d hb4)
      have y1 := cell_up c1 (below_d hb4)
      have hin4 := hin0.out.below (below_d hb4))
    |(go_at_call 135
      refine Calls.mono (cV.out _ hin4) ?_
      rintro e w5 ⟨rfl, hb5⟩
      have z0 := cell_up y0 hb5
      have z1 := cell_up y1 hb5))
 all_goals
  have hfin := Hd (below_up (below_up hb0.out hb0.out.size (below_d hb4)) (Nat.le_trans hb0.out.size (below_d hb4).size) hb5)
  clear hb4 hb5
  go_wp2_with fail
  go_ret
  exact ⟨congrArg (fun x => Ending.returned (.string x)) e9.out, hfin.out⟩
theorem sv_one (l : List (List UInt8)) : ∀ u ∈ sv l, u.oneCell' = true := by
 intro u hu
 obtain ⟨_, _, rfl⟩ := List.mem_map.1 hu
 rfl
theorem sv_length (l : List (List UInt8)) : (sv l).length = l.length := List.length_map _
theorem src_texts {w : World} {B c : Nat} {a : Option Addr} {l : List (List UInt8)} (h : OwnS w B a c l) : Src Tryz.prog 1 76 (.slice a l.length c) l.length (sv l) w := by
 rcases h.2 with ⟨hv, hn⟩ | ⟨g, cap, cur, hv, hb, hg, hc⟩
 ·have : l = [] := List.eq_nil_of_length_eq_zero hn
  subst this
  cases hv
  exact Src.ofNil _ Tryz.underlying76 0
 ·obtain ⟨rfl, rfl⟩ : a = some ⟨g, 0, none⟩ ∧ c = cap := by cases hv; exact ⟨rfl, rfl⟩
  exact Src.ofSlice _ Tryz.underlying76 ⟨g, 0, none⟩ l.length c (sv l) h.1 (fun j u hu => by simpa [Addr.add] using h.cells (g := g) rfl j u hu) (sv_one l)
/-- a row of texts, whole -/
theorem own_lit (w : World) (B : Nat) (l : List (List UInt8)) (hb : B ≤ w.heap.size) (hm : l.length ≤ maxLen) : OwnS (w.alloc (.cells (sv l).toArray 9)) B (some ⟨w.heap.size, 0, none⟩) l.length l :=
 ownsRow_lit w B 9 (sv l) l.length hb (sv_length l) hm
namespace Tl
theorem idF_i64 {e : Int} (h : u64 e) : i64 (idF e) := by obtain ⟨h0, h1⟩ := h; unfold i64 idF; omega
theorem genF_i64 {e : Int} (h : u64 e) : i64 (genF e) := by obtain ⟨h0, h1⟩ := h; unfold i64 genF; omega
end Tl
theorem handle_c (e : Int) (he : u64 e) (w : World) (hg : GlobT w) :
 Calls Tryz.prog 119 #[.int .u64 e] w fun x w' => (∃ a c, x = .returned (.slice a 2 c) ∧ OwnS w' w.heap.size a c [Lib.itoa (idF e), Lib.itoa (genF e)]) ∧ Below w.heap.size w w' := by
 have c1 := id_c e he
 have c2 := gen_c e he
 have c3 := itoaT_c (idF e) (idF_i64 he) w hg
 have c4 := fun w h => itoaT_c (genF e) (genF_i64 he) w h
 generalize idF e = x at *
 generalize genF e = y at *
 generalize Lib.itoa x = A at *
 generalize Lib.itoa y = B at *
 replace c1 := Hd c1
 replace c2 := Hd c2
 replace c3 := Hd c3
 replace c4 := Hd c4
 go_enter Tryz.func119, Tryz.ntmps119
 go_wp2_with fail
 refine (c1.out.on _).mono ?_
 rintro e w' ⟨rfl, rfl⟩
 go_wp2_with fail
 refine c3.out.mono ?_
 rintro e w1 ⟨rfl, hb1⟩
 have c4 := Hd (c4.out w1 (hg.on hb1))
 have hs1 := hb1.size
 replace hb1 := Hd hb1
 go_wp2_with fail
 refine (c2.out.on _).mono ?_
 rintro e w' ⟨rfl, rfl⟩
 go_wp2_with fail
 refine c4.out.mono ?_
 rintro e w2 ⟨rfl, hb2⟩
 have hb := below_up hb1.out hs1 hb2
 have hown := own_lit w2 w.heap.size [A, B] hb.size (by unfold maxLen; simp)
 have hfin := hb.alloc hb.size (.cells (sv [A, B]).toArray 9)
 clear hb hb1 hb2
 replace hown := Hd hown
 replace hfin := Hd hfin
 go_wp2_with fail
 go_ret
 exact ⟨⟨_, _, rfl, hown.out⟩, hfin.out⟩
namespace Tl
/-- the words of somebody and their parts -/
def whoL (e : Int) (ps : List PartD) : List (List UInt8) := [[101], Lib.itoa (idF e), Lib.itoa (genF e)] ++ ps.map partT
def whoT (e : Int) (ps : List PartD) : List UInt8 := Lib.join (whoL e ps) [32]
theorem whoL_len (e : Int) (ps : List PartD) : (whoL e ps).length = ps.length + 3 := by unfold whoL; rw [List.length_append, List.length_map]; simp; omega
end Tl
end Go.Proofs.YtjjgbillihedgaaGreatDoor
