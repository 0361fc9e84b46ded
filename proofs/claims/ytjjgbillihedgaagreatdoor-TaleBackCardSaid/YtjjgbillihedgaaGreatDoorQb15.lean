/- parts of the proof, merged: TlM, TlU, TlR, TlT, TlV, TlL, TlN -/
import Derived.Deep.RegionLaw
import Derived.Lib.JoinLaws
import Derived.Laws.OwnMore
import Derived.Lib.IndexMore
import Derived.Test.YtjjgbillihedgaaGreatDoorQb14
set_option linter.unusedSimpArgs false
set_option linter.unusedVariables false
set_option maxHeartbeats 32000000
set_option maxRecDepth 100000
namespace Go.Proofs.YtjjgbillihedgaaGreatDoor
open Go.RowKit
open Rf
open Sg
open Wide
open Tl
theorem asOp_in {w : World} {K E C : Int} {l : List PartD} {t : Value} (h : InS w t l) : OpIn w (asOpF K E C l) (asOpS K t) nilV := by
 unfold asOpF asOpS nilV
 split
 ·exact ⟨h, InS.nil _ _ _⟩
 ·exact ⟨InS.nil _ _ _, InS.nil _ _ _⟩
theorem is8_c (o : OpD) (hs : OpSmall o) (h8 : o.K = 8) (s t : Value) (w : World) (hin : OpIn w o s t) :
 Calls Tryz.prog 9 #[opv o s t] w fun e w' => e = .returned (.bool (isOpF o)) ∧ Below w.heap.size w w' := by
 obtain ⟨h1, h2⟩ := id hin
 have hb0 := below1 w (.cells (opc o s t) 32)
 have hbox := IsC.new w 32 (opc o s t)
 have cN := isNamed_c o hs.cP s t _ (hin.below hb0)
 have cP := fun w' (h : InS w' s o.P) => isPartsS_c o.P hs.P hs.L s w' h
 have hsm := asOp_small hs
 have hkd := asOp_kind o.cK o.cE o.cC o.cP
 have hin2 := (asOp_in (K := o.cK) (E := o.cE) (C := o.cC) h2).below hb0
 obtain ⟨a, c, rfl, _⟩ := id h1
 obtain ⟨b, d, rfl, _⟩ := id h2
 have cA := fun w' => asOp_c o.cK o.cE o.cC o.cP b o.cP.length d w'
 have c1 := fun w' (h : OpIn w' (asOpF o.cK o.cE o.cC o.cP) (asOpS o.cK (.slice b o.cP.length d)) nilV) => is1_c _ hsm hkd _ _ w' h
 obtain ⟨R, hR⟩ : ∃ R, isOpF o = R := ⟨_, rfl⟩
 rw [hR]
 unfold isOpF at hR
 rw [if_pos h8] at hR
 have hP1 := h1.below hb0
 generalize is1F (asOpF o.cK o.cE o.cC o.cP) = f at *
 generalize asOpF o.cK o.cE o.cC o.cP = x at *
 generalize asOpS o.cK (.slice b o.cP.length d) = xs at *
 generalize isCmd o.cK = kc at *
 unfold nilV at *
 obtain ⟨a1, e1, rfl, _⟩ := id hin2.1
 clear hin hs h1 h2 hsm hkd
 obtain ⟨K, E, C, P, A, N, cK, cE', cC, cP', U, B⟩ := o
 obtain ⟨xK, xE, xC, xP, xA, xN, xcK, xcE', xcC, xcP', xU, xB⟩ := x
 dsimp only at *
 subst h8
 unfold opc at *
 unfold opv at *
 unfold cmdv at *
 dsimp only at *
 generalize isNamedF _ = n1 at *
 generalize isPartsF _ = n2 at *
 replace cN := Hd cN
 replace cP := Hd cP
 replace cA := Hd cA
 replace c1 := Hd c1
 replace hR := Hd hR
 replace hb0 := Hd hb0
 replace hbox := Hd hbox
 replace hP1 := Hd hP1
 replace hin2 := Hd hin2
 have hb0s := hb0.out.size
 cases n1 with
 | false =>
   have hr := hR.out
   simp at hr
   subst hr
   clear hR
   go_enter Tryz.func9, Tryz.ntmps9
   go_wp2_with fail
   refine cN.out.mono ?_
   rintro e w1 ⟨rfl, hb1⟩
   have hb2 := Hd (below_up hb0.out hb0s hb1)
   clear hb1 hbox cN hb0
   go_wp2_with fail
   go_ret
   exact ⟨rfl, hb2.out⟩
 | true =>
   cases n2 with
   | false =>
     have hr := hR.out
     simp at hr
     subst hr
     clear hR
     go_enter Tryz.func9, Tryz.ntmps9
     go_wp2_with fail
     refine cN.out.mono ?_
     rintro e w1 ⟨rfl, hb1⟩
     have hbx := isC_of hb1 hbox.out
     have k3 := hbx.cell 3
     have hb2 := below_up hb0.out hb0s hb1
     have hb2s := hb2.size
     have cP1 := cP.out w1 (hP1.out.below hb1)
     clear hb1 hbox cN hb0 cP
     replace hb2 := Hd hb2
     replace hbx := Hd hbx
     replace cP1 := Hd cP1
     go_wp2_with fail
     refine cP1.out.mono ?_
     rintro e w2 ⟨rfl, hb3⟩
     have hby := isC_of hb3 hbx.out
     have hb4 := Hd (below_up hb2.out hb2s hb3)
     clear hb3 hbx cP1 hb2 hby
     go_wp2_with fail
     go_ret
     exact ⟨rfl, hb4.out⟩
   | true =>
     have hr := hR.out
     simp only [Bool.true_and] at hr
     clear hR
     replace hr := Hd hr
     go_enter Tryz.func9, Tryz.ntmps9
     go_wp2_with fail
     refine cN.out.mono ?_
     rintro e w1 ⟨rfl, hb1⟩
     have hbx := isC_of hb1 hbox.out
     have k3 := hbx.cell 3
     have hb2 := below_up hb0.out hb0s hb1
     have hb2s := hb2.size
     have cP1 := cP.out w1 (hP1.out.below hb1)
     replace hin2 := Hd (hin2.out.below hb1)
     clear hb1 hbox cN hb0 cP
     replace hb2 := Hd hb2
     replace hbx := Hd hbx
     replace cP1 := Hd cP1
     go_wp2_with fail
     refine cP1.out.mono ?_
     rintro e w2 ⟨rfl, hb3⟩
     have hby := isC_of hb3 hbx.out
     have j0 := hby.cell 0
     have j6 := hby.cell 6
     have j7 := hby.cell 7
     have j8 := hby.cell 8
     have j9 := hby.cell 9
     have hb4 := Hd (below_up hb2.out hb2s hb3)
     have hb4s := hb4.out.size
     replace hin2 := Hd (hin2.out.below hb3)
     clear hb3 hbx cP1 hb2 hby k3
     go_wp2_with fail
     refine (cA.out _).mono ?_
     rintro e w3 ⟨rfl, hb5⟩
     replace hin2 := Hd ((hin2.out.below hb5).below (below1 w3 (.cells #[.int .i64 xK, .int .u64 xE, .int .i64 xC, .slice a1 xP.length e1, .int .u32 xA, .int .u32 xN, .int .i64 xcK, .int .u64 xcE', .int .i64 xcC, .slice none 0 0, .int .i64 xU, .string xB] 32)))
     have hb6 := below_up hb4.out hb4s hb5
     have hb7 := Hd (hb6.alloc hb6.size (.cells #[.int .i64 xK, .int .u64 xE, .int .i64 xC, .slice a1 xP.length e1, .int .u32 xA, .int .u32 xN, .int .i64 xcK, .int .u64 xcE', .int .i64 xcC, .slice none 0 0, .int .i64 xU, .string xB] 32))
     have hb7s := hb7.out.size
     have c2 := c1.out _ hin2.out
     clear hb5 hb6 cA hb4 j0 j6 j7 j8 j9 c1 hin2
     replace c2 := Hd c2
     cases kc with
     | false =>
       have hr' := hr.out
       simp at hr'
       subst hr'
       clear hr c2
       go_wp2_with fail
       go_ret
       exact ⟨rfl, hb7.out⟩
     | true =>
       have hr' := hr.out
       simp at hr'
       subst hr'
       clear hr
       go_wp2_with fail
       refine c2.out.mono ?_
       rintro e w4 ⟨rfl, hb8⟩
       have hb9 := Hd (below_up hb7.out hb7s hb8)
       clear hb8 c2 hb7
       go_wp2_with fail
       go_ret
       exact ⟨rfl, hb9.out⟩
/-- whether an op can be told -/
theorem isOp_c (o : OpD) (hs : OpSmall o) (s t : Value) (w : World) (hin : OpIn w o s t) :
 Calls Tryz.prog 9 #[opv o s t] w fun e w' => e = .returned (.bool (isOpF o)) ∧ Below w.heap.size w w' := by
 by_cases h8 : o.K = 8
 ·exact is8_c o hs h8 s t w hin
 ·rw [show isOpF o = is1F o from if_neg h8]
  exact is1_c o hs h8 s t w hin
theorem addr_add (g o j : Nat) : (⟨g, o, none⟩ : Addr).add j = ⟨g, o + j, none⟩ := by unfold Addr.add; split <;> simp_all
section
variable {P : Program} {ops : Array Oper} {Q : Exit → Act → World → Prop} {md : Region.Mode}
/-- under a stronger condition -/
theorem wpAnyH_imp {S S1 : World → Prop} (hi : ∀ w, S1 w → S w) : ∀ (fuel : Nat) (listed : Array Bool) (a : Act) (w : World), wpAnyH P md ops Q S1 fuel listed a w → wpAnyH P md ops Q S fuel listed a w
 | 0, _, _, _, h => h
 | fuel + 1, _, _, _, h => ⟨h.1, fun i hm => wpOp_mono (fun a' w' h' => ⟨hi _ h'.1, wpAnyH_imp hi fuel _ a' w' h'.2⟩) (h.2 i hm)⟩
/-- the condition gains a limb -/
theorem wpAnyH_more {S : World → Prop} {N : World → Prop} {fuel : Nat} {listed : Array Bool} {a : Act} {w : World} (hN : N w) (hS : S w) (h : N w ∧ S w → wpAnyH P md ops Q (fun w => N w ∧ S w) fuel listed a w) : wpAnyH P md ops Q S fuel listed a w :=
 wpAnyH_imp (fun _ h => h.2) _ _ _ _ (h ⟨hN, hS⟩)
/-- an append of whatever source onto a row of the call's own, in a region that draws -/
theorem step_append_own_src {o : Oper} {a : Act} {w : World} {K : Act → World → Prop} (s x : Operand) (t tx : TypeId)
 (ho : o.op = .call { callee := .builtin .append, args := #[s, x], argTypes := #[t, tx] })
 (base : Nat) (e : TypeId) (i : TypeInfo) (z : Value) (size bytes : Nat) (ht : P.underlying t = some (.slice e)) (hi : P.info? e = some i) (hz : i.zero = some z)
 (hsize : i.size = size) (hby : i.bytes = bytes) (hzs : z.cells.size = size)
 {v : Value} {n : Nat} {xs : List Value} (hv : a.eval s = v) (hown : w.ownsRow base e size v n xs)
 {xv : Value} {m : Nat} {news : List Value} (hx : a.eval x = xv) (hs : Src P size tx xv m news w) (h63 : n + m ≤ maxLen) (hbytes : (n + m) * bytes ≤ 140737488355328) (hbase : base ≤ w.heap.size)
 (hK : ∀ b' c' w', w'.ownsRow base e size (.slice b' (n + m) c') (n + m) (xs ++ news) → w.grownBy w' v.ownBlock → K (a.put o.dst (.slice b' (n + m) c')) w') : Oper.wp P o a w K Q := by
 obtain ⟨v', w', hrun, r1, r2, b', c', rfl⟩ := run_append_own_src (P := P) w base t tx o.type e i z size bytes ht hi hz hsize hby hzs v n xs hown xv m news hs h63 hbytes hbase
 unfold Oper.wp
 simp [execOp, ho, resolve, invoke, builtin, hv, hx, hrun, Result.andThen]
 exact hK _ _ _ r1 r2
/-- an append onto a row that has no room (whatever its beginning) -/
theorem run_append_full_src (w : World) (t tx ty e : TypeId) (i : TypeInfo) (z : Value) (size bytes : Nat) (ht : P.underlying t = some (.slice e)) (hi : P.info? e = some i) (hz : i.zero = some z)
 (hsize : i.size = size) (hby : i.bytes = bytes) (hzs : z.cells.size = size) (g o n : Nat) (xs : List Value) (hxl : xs.length = n * size) (hc : ∀ j u, xs[j]? = some u → w.cell? ⟨g, o + j, none⟩ = some u)
 (x : Value) (m : Nat) (news : List Value) (hs : Src P size tx x m news w) (hm : 0 < m) (h63 : n + m ≤ maxLen) (hbytes : (n + m) * bytes ≤ 140737488355328) (base : Nat) (hbase : base ≤ w.heap.size) :
 ∃ b' c' w', (Builtin.append_ #[t, tx] ty #[.slice (some ⟨g, o, none⟩) n n, x]).run P w = .ok (.slice b' (n + m) c') w' ∧ w'.ownsRow base e size (.slice b' (n + m) c') (n + m) (xs ++ news) ∧ Below w.heap.size w w' := by
 subst hsize
 subst hby
 have h63' : ((n + m : Nat) : Int) ≤ 9223372036854775807 := by simp only [maxLen] at h63; omega
 have hlen : (xs ++ news).length = (n + m) * i.size := by rw [List.length_append, hxl, hs.newsLen, Nat.add_mul]
 have hold : (Builtin.firstCells i.size n (.slice (some ⟨g, o, none⟩) n n)).run P w.drew = .ok xs.toArray w.drew :=
  run_firstCells_some w.drew i.size n ⟨g, o, none⟩ n n xs hxl (by intro j u hu; rw [addr_add]; exact hc j u hu)
 have hrun := run_append_grow_src (P := P) w t tx ty e i z ht hi hz (some ⟨g, o, none⟩) n n xs hold x m news hs (by omega) h63' (growslice_fits (by omega) hbytes)
 have hge := grownCap_ge w (n + m) n e
 refine ⟨_, _, _, hrun, ⟨hlen, .inr ⟨w.heap.size, _, _, rfl, hbase, heap_alloc_new w.drew _, hge, grownCap_le_maxLen w (n + m) n e h63, ?_, ?_⟩⟩, ⟨rfl, rfl, rfl, by simp, fun k hk => Below.heap_alloc w.drew _ k hk⟩⟩
 ·rw [Array.size_append, List.size_toArray, hlen, size_zeroCells, hzs, ← Nat.add_mul]
  congr 1
  omega
 ·rw [Array.toList_append, ← hlen]
  exact List.take_left
theorem step_append_full_src {o : Oper} {a : Act} {w : World} {K : Act → World → Prop} (s x : Operand) (t tx : TypeId)
 (ho : o.op = .call { callee := .builtin .append, args := #[s, x], argTypes := #[t, tx] })
 (e : TypeId) (i : TypeInfo) (z : Value) (size bytes : Nat) (ht : P.underlying t = some (.slice e)) (hi : P.info? e = some i) (hz : i.zero = some z)
 (hsize : i.size = size) (hby : i.bytes = bytes) (hzs : z.cells.size = size) (g b n : Nat) (xs : List Value) (hxl : xs.length = n * size) (hc : ∀ j u, xs[j]? = some u → w.cell? ⟨g, b + j, none⟩ = some u)
 (hv : a.eval s = .slice (some ⟨g, b, none⟩) n n)
 {xv : Value} {m : Nat} {news : List Value} (hx : a.eval x = xv) (hs : Src P size tx xv m news w) (hm : 0 < m) (h63 : n + m ≤ maxLen) (hbytes : (n + m) * bytes ≤ 140737488355328) (base : Nat) (hbase : base ≤ w.heap.size)
 (hK : ∀ b' c' w', w'.ownsRow base e size (.slice b' (n + m) c') (n + m) (xs ++ news) → Below w.heap.size w w' → K (a.put o.dst (.slice b' (n + m) c')) w') : Oper.wp P o a w K Q := by
 obtain ⟨b', c', w', hrun, r1, r2⟩ := run_append_full_src (P := P) w t tx o.type e i z size bytes ht hi hz hsize hby hzs g b n xs hxl hc xv m news hs hm h63 hbytes base hbase
 unfold Oper.wp
 simp [execOp, ho, resolve, invoke, builtin, hv, hx, hrun, Result.andThen]
 exact hK _ _ _ r1 r2
theorem wpList_append_full_src {w : World} {rest : List Oper} {o : Oper} {a : Act} (hgd : o.guard = none) (s x : Operand) (t tx : TypeId)
 (ho : o.op = .call { callee := .builtin .append, args := #[s, x], argTypes := #[t, tx] })
 (e : TypeId) (i : TypeInfo) (z : Value) (size bytes : Nat) (ht : P.underlying t = some (.slice e)) (hi : P.info? e = some i) (hz : i.zero = some z)
 (hsize : i.size = size) (hby : i.bytes = bytes) (hzs : z.cells.size = size) (g b n : Nat) (xs : List Value) (hxl : xs.length = n * size) (hc : ∀ j u, xs[j]? = some u → w.cell? ⟨g, b + j, none⟩ = some u)
 (hv : a.eval s = .slice (some ⟨g, b, none⟩) n n)
 {xv : Value} {m : Nat} {news : List Value} (hx : a.eval x = xv) (hs : Src P size tx xv m news w) (hm : 0 < m) (h63 : n + m ≤ maxLen) (hbytes : (n + m) * bytes ≤ 140737488355328) (base : Nat) (hbase : base ≤ w.heap.size)
 (hK : ∀ b' c' w', w'.ownsRow base e size (.slice b' (n + m) c') (n + m) (xs ++ news) → Below w.heap.size w w' → wpList P ops Q rest (a.put o.dst (.slice b' (n + m) c')) w') : wpList P ops Q (o :: rest) a w := by
 refine wpList_plain hgd fun K hK' => ?_
 exact step_append_full_src s x t tx ho e i z size bytes ht hi hz hsize hby hzs g b n xs hxl hc hv hx hs hm h63 hbytes base hbase (fun b' c' w' r1 r2 => hK' _ _ (hK b' c' w' r1 r2))
end
/-- a source of texts -/
theorem src_in {w : World} {a : Option Addr} {c : Nat} {l : List (List UInt8)} (h : InT w a c l) : Src Tryz.prog 1 76 (.slice a l.length c) l.length (sv l) w := by
 rcases h.2 with rfl | ⟨g, o, rfl, hg, hc⟩
 ·cases a with
  | none => exact Src.ofNil _ Tryz.underlying76 c
  | some a => exact Src.ofSlice _ Tryz.underlying76 a 0 c (sv []) rfl (fun j u hu => by simp [sv] at hu) (sv_one [])
 ·refine Src.ofSlice _ Tryz.underlying76 ⟨g, o, none⟩ l.length c (sv l) (by rw [sv_length, Nat.mul_one]) (fun j u hu => ?_) (sv_one l)
  have hj : j < l.length := by
   rcases Nat.lt_or_ge j l.length with h' | h'
   ·exact h'
   ·rw [List.getElem?_eq_none (by rw [sv_length]; exact h')] at hu; cases hu
  rw [sv_get l j hj] at hu
  cases hu
  rw [addr_add]
  exact hc j hj
end Go.Proofs.YtjjgbillihedgaaGreatDoor
namespace Go.Proofs.YtjjgbillihedgaaGreatDoor
open Go.RowKit
open Rf
open Sg
open Wide
namespace Tl
theorem take_at (s : ByteArray) (j : Nat) (h : j < s.size) : (byts s).take (j + 1) = (byts s).take j ++ [s[j]] := take_snoc s j h
end Tl
open Tl
namespace Tl
/-- a hex digit's number; -1: it is none -/
def dgtF (c : UInt8) : Int := if 48 ≤ c.toNat ∧ c.toNat ≤ 57 then (c.toNat : Int) - 48 else if 97 ≤ c.toNat ∧ c.toNat ≤ 102 then (c.toNat : Int) - 97 + 10 else -1
theorem dgtF_bd (c : UInt8) : -1 ≤ dgtF c ∧ dgtF c ≤ 15 := by unfold dgtF; split <;> (try split) <;> omega
end Tl
namespace Tl
end Tl
open Tl
theorem number_c (s : ByteArray) (hs : s.size ≤ 100000) (w : World) (hg : GlobT w) :
 Calls Tryz.prog 74 #[.string s] w fun e w' => e = .returned (.int .i64 (atoiV (byts s))) ∧ Below w.heap.size w w' := by
 have ca := Hd (atoi_c s (by omega) w hg.1)
 go_enter Tryz.func74, Tryz.ntmps74
 go_wp2_with fail
 refine ca.out.mono ?_
 rintro e w1 ⟨ev, rfl, hb⟩
 replace hb := Hd hb
 clear ca
 go_wp2_with fail
 go_ret
 exact ⟨rfl, hb.out⟩
namespace Tl
def behF (l : List UInt8) : List UInt8 := if l = [] then [] else 32 :: l
end Tl
theorem behind_c (s : ByteArray) (hs : s.size ≤ 1000000) : Still 73 #[.string s] (.string (text (behF (byts s)))) := fun w => by
 have e0 := str_empty s
 unfold behF
 cases h : byts s with
 | nil =>
   rw [h] at e0
   have e1 := Hd (show text [] = s by rw [← h, text_byts])
   clear h
   go_enter Tryz.func73, Tryz.ntmps73
   go_wp2_with fail
   go_ret
   exact ⟨by rw [e1.out]; rfl, rfl⟩
 | cons c r =>
   rw [h] at e0
   have e1 := Hd (show text (32 :: c :: r) = ⟨#[32]⟩ ++ s by rw [← text_byts s, h, show (⟨#[32]⟩ : ByteArray) = text [32] from rfl, text_append]; rfl)
   have e2 : ¬ 9223372036854775807 < 1 + s.size := by omega
   clear h
   go_enter Tryz.func73, Tryz.ntmps73
   go_wp2_with fail
   go_ret
   exact ⟨by rw [e1.out]; rfl, rfl⟩
namespace Tl
def hexL : List UInt8 := [48, 49, 50, 51, 52, 53, 54, 55, 56, 57, 97, 98, 99, 100, 101, 102]
def hx (n : Nat) : UInt8 := hexL.getD n 0
def hexF (l : List UInt8) : List UInt8 := l.flatMap fun c => [hx (c.toNat / 16), hx (c.toNat % 16)]
theorem hexF_len (l : List UInt8) : (hexF l).length = 2 * l.length := by
 unfold hexF
 induction l with
 | nil => rfl
 | cons c r ih => rw [List.flatMap_cons, List.length_append, ih]; simp; omega
theorem hexF_snoc (l : List UInt8) (c : UInt8) : hexF (l ++ [c]) = hexF l ++ [hx (c.toNat / 16), hx (c.toNat % 16)] := by
 unfold hexF
 rw [List.flatMap_append]
 simp
end Tl
/-- the digit at a place of the constant -/
theorem exec_hex {ev : Operand → Value} {o : Oper} {y x : Operand} {T : ByteArray} {z : Int} {i p : Nat} (ho : o.op = .index 9 y x) (hev : ev y = .string T) (hxe : ev x = .int .u8 z) (hz : z = (i : Int)) (hi : i < 16) (hp : (hx i).toNat = p) (w : World) (hT : T = ⟨#[48, 49, 50, 51, 52, 53, 54, 55, 56, 57, 97, 98, 99, 100, 101, 102]⟩ := by rfl) :
 Sem.run Tryz.prog (execOp ev o) w = .ok (.value (.int .u8 (p : Int))) w := by
 subst hT hz hp
 have h := run_index_string (P := Tryz.prog) (w := w) 9 ⟨#[48, 49, 50, 51, 52, 53, 54, 55, 56, 57, 97, 98, 99, 100, 101, 102]⟩ .u8 (i : Int) Tryz.underlying9
 rw [dif_pos ⟨by omega, by show (i : Int) < 16; omega⟩] at h
 have hg : ∀ (k : Nat) (hk : k < 16), ((⟨#[48, 49, 50, 51, 52, 53, 54, 55, 56, 57, 97, 98, 99, 100, 101, 102]⟩ : ByteArray)[k]'hk) = Tl.hx k := by decide
 have h2 := hg i hi
 simp only [Int.toNat_natCast] at h
 rw [h2] at h
 unfold execOp
 simp only [ho, hev, hxe, Sem.run_bind, h, Result.andThen, Sem.run_pure]
theorem src_two (w : World) (a b : Int) : Src Tryz.prog 1 85 (.slice (some ⟨w.heap.size, 0, none⟩) 2 2) 2 [.int .u8 a, .int .u8 b] (w.alloc (.cells #[.int .u8 a, .int .u8 b] 5)) :=
 Src.ofSlice _ Tryz.underlying85 ⟨w.heap.size, 0, none⟩ 2 2 _ rfl (by
  intro j u hj
  have hc := (IsC.new w 5 #[.int .u8 a, .int .u8 b]).cell j
  rw [show (⟨w.heap.size, 0, none⟩ : Addr).add j = ⟨w.heap.size, j, none⟩ by unfold Addr.add; split <;> simp_all]
  rw [hc]
  simpa using hj) (by intro u hu; simp at hu; rcases hu with rfl | rfl <;> rfl)
theorem hex_c (s : ByteArray) (hs : s.size ≤ 1000000) (w : World) : Calls Tryz.prog 18 #[.string s] w fun e w' => e = .returned (.string (text (hexF (byts s)))) ∧ Below w.heap.size w w' := by
 obtain ⟨i0, hi, hz0, hz1, hz2⟩ := info_parts infoU8
 obtain ⟨R, hR⟩ : ∃ R, text (hexF (byts s)) = R := ⟨_, rfl⟩
 rw [hR]
 replace hR := Hd hR
 have hmk := run_make_room (P := Tryz.prog) 85 5 (.int .u8 0) 1 Tryz.underlying85 infoU8 rfl .i64 .i64 (2 * s.size) (by omega) (by omega) w
 rw [show (((2 * s.size : Nat)) : Int) = 2 * (s.size : Int) by omega] at hmk
 obtain ⟨w0, hw0⟩ : ∃ w0, w.alloc (.cells (madeCells #[.int .u8 0] (2 * s.size)) 5) = w0 := ⟨_, rfl⟩
 have hown0 : w0.ownsRow w.heap.size 5 1 (.slice (some ⟨w.heap.size, 0, none⟩) 0 (2 * s.size)) 0 (bv []) := by
  rw [← hw0]
  exact World.ownsRow_made w _ (2 * s.size) (Nat.le_refl _) (by unfold maxLen; omega) (by rw [size_madeCells, Nat.mul_one])
 have hbw0 : Below w.heap.size w w0 := by rw [← hw0]; exact below1 w _
 rw [hw0] at hmk
 replace hown0 := Hd hown0
 replace hbw0 := Hd hbw0
 clear hw0
 go_enter Tryz.func18, Tryz.ntmps18
 go_wp2_with fail
 clear hmk
 go_loopw [3, 11] (fun b i wr => ∃ j : Nat, j ≤ s.size ∧ i = .int .i64 j ∧ (∃ a c, b = .slice a (2 * j) c ∧ wr.ownsRow w.heap.size 5 1 (.slice a (2 * j) c) (2 * j) (bv (hexF ((byts s).take j)))) ∧ Below w.heap.size w wr) (fun _ i _ => s.size - (intOf i).toNat)
 case atStart => exact ⟨0, Nat.zero_le _, rfl, ⟨_, _, rfl, hown0.out⟩, hbw0.out⟩
 case round =>
  clear hown0 hbw0
  obtain ⟨j, hj, rfl, ⟨b, d, rfl, hown⟩, hb⟩ := hrel
  have hbz := hb.size
  have hlen := Hd (show 2 * j ≤ 2000000 by omega)
  by_cases hlt : j < s.size
  ·have hltI : (j : Int) < (s.size : Int) := by omega
   have hst := take_at s j hlt
   have hxb := s[j].toNat_lt
   have a1 : bits .and .u8 (s[j].toNat : Int) 15 = (s[j].toNat : Int) % 16 := by
    have h := u8_and_nat s[j].toNat 15 (by omega) (by decide)
    rw [show s[j].toNat &&& 15 = s[j].toNat % 2 ^ 4 from Nat.and_two_pow_sub_one_eq_mod s[j].toNat 4] at h
    exact h.trans (by omega)
   obtain ⟨x, hxj⟩ : ∃ x, s[j] = x := ⟨_, rfl⟩
   rw [hxj] at hst hxb a1
   obtain ⟨H, hHx⟩ : ∃ H, H = (hx (x.toNat / 16)).toNat := ⟨_, rfl⟩
   obtain ⟨L, hLx⟩ : ∃ L, L = (hx (x.toNat % 16)).toNat := ⟨_, rfl⟩
   replace hHx := Hd hHx
   replace hLx := Hd hLx
   replace hst := Hd hst
   replace hown := Hd hown
   replace hb := Hd hb
   go_wp2_with fail
   refine wp_region_held_at (S := fun w1 => True) 14 rfl (by kernel_rfl) (by go_keep) (fun hH => ?_)
   refine wpU 0 ?_ rfl ?_ ?_
   rotate_left
   ·intro u h; (try simp only [ls3]); go_simp; try with_reducible rfl
   try simp only [ls7, Act.put]
   refine wpU 1 ?_ rfl ?_ ?_
   rotate_left
   ·intro u h; (try simp only [ls3]); go_simp; try with_reducible rfl
   try simp only [ls7, Act.put]
   refine wpU 2 ?_ rfl ?_ ?_
   rotate_left
   ·intro u h; (try simp only [ls3]); go_simp; try with_reducible rfl
   try simp only [ls7, Act.put]
   refine wpU 3 ?_ rfl ?_ ?_
   rotate_left
   ·intro u h; (try simp only [ls3]); go_simp; try with_reducible rfl
   try simp only [ls7, Act.put]
   refine wpU 4 ?_ rfl ?_ ?_
   rotate_left
   ·intro u h; (try simp only [ls3]); go_simp; try with_reducible rfl
   try simp only [ls7, Act.put]
   refine wpAnyH_take (i := 5) (v := .int .u8 (H : Int)) rfl (by decide +kernel) (by decide +kernel) (by decide +kernel) (fun _ _ _ h => h) (Or.inl ⟨by rfl, ?_⟩) (by assumption) ?_
   ·intro w1 hSw
    exact exec_hex (i := x.toNat / 16) rfl rfl rfl (by first | rfl | simp | omega) (by omega) hHx.out.symm w1
   try simp only [ls7, Act.put]
   refine wpU 6 ?_ rfl ?_ ?_
   rotate_left
   ·intro u h; (try simp only [ls3]); go_simp; try with_reducible rfl
   try simp only [ls7, Act.put]
   refine wpU 7 ?_ rfl ?_ ?_
   rotate_left
   ·intro u h; (try simp only [ls3]); go_simp; try with_reducible rfl
   try simp only [ls7, Act.put]
   refine wpU 8 ?_ rfl ?_ ?_
   rotate_left
   ·intro u h; (try simp only [ls3]); go_simp; try with_reducible rfl
   try simp only [ls7, Act.put]
   refine wpU 9 ?_ rfl ?_ ?_
   rotate_left
   ·intro u h; (try simp only [ls3]); go_simp; try with_reducible rfl
   try simp only [ls7, Act.put]
   refine wpAnyH_take (i := 10) (v := .int .u8 (L : Int)) rfl (by decide +kernel) (by decide +kernel) (by decide +kernel) (fun _ _ _ h => h) (Or.inl ⟨by rfl, ?_⟩) (by assumption) ?_
   ·intro w1 hSw
    exact exec_hex (i := x.toNat % 16) rfl rfl rfl (by first | rfl | exact a1 | simp | omega) (by omega) hLx.out.symm w1
   try simp only [ls7, Act.put]
   refine wpAnyH_ready (rs := [11]) (by decide +kernel) (by simp) ?_
   refine AllReadyH.cons rfl (fun K hK => ?_) AllReadyH.nil
   (try simp only [ls3])
   go_simp
   refine hK.out _ _ (by go_keep) (fun hH => ?_)
   clear hK K
   try simp only [ls7, Act.put]
   have hown2 := Hd (hown.out.alloc (.cells #[.int .u8 (H : Int), .int .u8 (L : Int)] 5))
   have hb2 := Hd ((below_drewed hb.out).alloc (by exact hbz) (.cells #[.int .u8 (H : Int), .int .u8 (L : Int)] 5))
   have hb2s := hb2.out.size
   have hsrc := src_two wr.drew (H : Int) (L : Int)
   refine wpAnyH_ready (rs := [12]) (by decide +kernel) (by simp) ?_
   refine AllReadyH.cons rfl (fun K hK => ?_) AllReadyH.nil
   (try simp only [ls3])
   rw [if_pos (by rfl)]
   refine step_append_own_src (w := (wr.alloc (.cells #[.int .u8 (H : Int), .int .u8 (L : Int)] 5)).drew) (v := .slice b (2 * j) d) (xv := .slice (some ⟨wr.heap.size, 0, none⟩) 2 2) (.tmp 14) (.tmp 25) 85 85 ?_ w.heap.size 5 i0 (.int .u8 0) 1 1 Tryz.underlying85 hi hz0 hz1 hz2 ?_ ?_ hown2.out ?_ hsrc ?_ ?_ ?_ ?_
   ·rfl
   ·rfl
   ·rfl
   ·rfl
   ·have := hlen.out; unfold maxLen; omega
   ·have := hlen.out; omega
   ·exact hb2s
   intro b' c' w4 hown3 hg1
   have hfin := Hd (Below.grown hb2.out hg1 hb2s (fun q hq => by have := World.ownsRow.lt hown2.out q hq; omega))
   rw [show ([.int .u8 (H : Int), .int .u8 (L : Int)] : List Value) = bv [hx (x.toNat / 16), hx (x.toNat % 16)] by rw [hHx.out, hLx.out]; rfl, ← bv_append] at hown3
   replace hown3 := Hd hown3
   clear hg1 hsrc hown2
   refine hK.out _ _ (by go_keep) (fun hH => ?_)
   clear hK K
   try simp only [ls7, Act.put]
   refine wpU 13 ?_ rfl ?_ ?_
   rotate_left
   ·intro u h; (try simp only [ls3]); go_simp; try with_reducible rfl
   try simp only [ls7, Act.put]
   refine wpAnyH_done (by decide +kernel) ?_ _
   go_wp2_with fail
   go_roundw
   case rel => exact ⟨j + 1, by omega, by go_num, ⟨b', c', by congr 1, by rw [hst.out, hexF_snoc]; exact hown3.out⟩, hfin.out⟩
   case measure => simp [intOf]; omega
  ·obtain rfl : j = s.size := by omega
   rw [take_all] at hown
   have hstr := run_string_own (P := Tryz.prog) wr 85 9 5 Tryz.underlying85 Tryz.underlying5 Tryz.underlying9 hown
   replace hb := Hd hb
   rw [hR.out] at hstr
   clear hown hR
   go_wp2_with fail
   go_ret
   exact ⟨rfl, hb.out⟩
namespace Tl
/-- two digits a byte, read -/
def unhexF : List UInt8 → Option (List UInt8)
 | [] => some []
 | [_] => none
 | a :: b :: r => if dgtF a < 0 ∨ dgtF b < 0 then none else (unhexF r).map (UInt8.ofNat (16 * (dgtF a).toNat + (dgtF b).toNat) :: ·)
theorem unhex_odd : ∀ l : List UInt8, l.length % 2 = 1 → unhexF l = none
 | [], h => by simp at h
 | [_], _ => rfl
 | a :: b :: r, h => by
   rw [unhexF, unhex_odd r (by simp at h; omega)]
   split <;> rfl
theorem unhex_app : ∀ (k : Nat) (l m : List UInt8), l.length = 2 * k → unhexF (l ++ m) = (unhexF l).bind fun d => (unhexF m).map (d ++ ·)
 | 0, l, m, h => by
   obtain rfl := List.eq_nil_of_length_eq_zero (by omega : l.length = 0)
   show unhexF m = (unhexF m).map ([] ++ ·)
   cases unhexF m <;> rfl
 | k + 1, [], m, h => by simp at h
 | k + 1, [_], m, h => by simp at h; omega
 | k + 1, a :: b :: r, m, h => by
   rw [List.cons_append, List.cons_append, unhexF, unhexF, unhex_app k r m (by simp at h; omega)]
   split
   ·rfl
   ·cases unhexF r with
    | none => rfl
    | some d =>
      show ((unhexF m).map (d ++ ·)).map _ = (unhexF m).map _
      cases unhexF m <;> rfl
theorem unhex_two {l : List UInt8} {k : Nat} {x y : UInt8} {d : List UInt8} (hl : l.length = 2 * k) (h : unhexF l = some d) : unhexF (l ++ [x] ++ [y]) = if dgtF x < 0 ∨ dgtF y < 0 then none else some (d ++ [UInt8.ofNat (16 * (dgtF x).toNat + (dgtF y).toNat)]) := by
 rw [List.append_assoc, unhex_app k l _ hl, h]
 show (unhexF [x, y]).map (d ++ ·) = _
 rw [unhexF]
 split <;> rfl
theorem unhex_bad {s : ByteArray} {k j : Nat} (hk : 2 * k = j) {x y : UInt8} {d : List UInt8} (hj : j + 1 < s.size) (hx : s[j] = x) (hy : s[j + 1] = y) (h : unhexF ((byts s).take j) = some d) (hb : dgtF x < 0 ∨ dgtF y < 0) : unhexF (byts s) = none := by
 have e1 := take_at s j (by omega)
 have e2 := take_at s (j + 1) hj
 have hl : ((byts s).take j).length = 2 * k := by rw [List.length_take, byts_length]; omega
 have e3 := unhex_two (x := x) (y := y) hl h
 rw [if_pos hb, ← hx, ← hy, ← e1, ← e2] at e3
 rw [← List.take_append_drop (j + 1 + 1) (byts s), unhex_app (k + 1) _ _ (by rw [List.length_take, byts_length]; omega), e3]
 rfl
theorem unhex_step {s : ByteArray} {k j : Nat} (hk : 2 * k = j) {x y : UInt8} {d : List UInt8} (hj : j + 1 < s.size) (hx : s[j] = x) (hy : s[j + 1] = y) (h : unhexF ((byts s).take j) = some d) (hb : ¬ (dgtF x < 0 ∨ dgtF y < 0)) : unhexF ((byts s).take (j + 2)) = some (d ++ [UInt8.ofNat (16 * (dgtF x).toNat + (dgtF y).toNat)]) := by
 have e1 := take_at s j (by omega)
 have e2 := take_at s (j + 1) hj
 have hl : ((byts s).take j).length = 2 * k := by rw [List.length_take, byts_length]; omega
 have e3 := unhex_two (x := x) (y := y) hl h
 rw [if_neg hb, ← hx, ← hy, ← e1, ← e2] at e3
 rw [← hx, ← hy]
 exact e3
theorem idx_hex (c : UInt8) : Lib.indexByte hexL c = dgtF c := by
 have h : ∀ c : Fin 256, Lib.indexByte hexL (UInt8.ofNat c.val) = dgtF (UInt8.ofNat c.val) := by decide +kernel
 have := h ⟨c.toNat, c.toNat_lt⟩
 simpa using this
/-- bytes of digits; the error -/
def bytesF (l : List UInt8) : List UInt8 × Int := match unhexF l with
 | none => ([], 4)
 | some d => (d, 0)
end Tl
theorem ixb_c (c : UInt8) (w : World) : Calls Tryz.prog 43 #[.string ⟨#[48, 49, 50, 51, 52, 53, 54, 55, 56, 57, 97, 98, 99, 100, 101, 102]⟩, .int .u8 (c.toNat : Int)] w fun e w' => e = .returned (.int .i64 (dgtF c)) ∧ w' = w := by
 have h := Go.Proofs.Any.strings_IndexByte Tryz.lays137 ⟨#[48, 49, 50, 51, 52, 53, 54, 55, 56, 57, 97, 98, 99, 100, 101, 102]⟩ (c.toNat : Int) w
 rw [show ((c.toNat : Int)).toNat.toUInt8 = c by simp] at h
 rw [show (⟨#[48, 49, 50, 51, 52, 53, 54, 55, 56, 57, 97, 98, 99, 100, 101, 102]⟩ : ByteArray).data.toList = hexL from rfl, idx_hex] at h
 exact h
theorem src_b (w : World) (a : Int) : Src Tryz.prog 1 85 (.slice (some ⟨w.heap.size, 0, none⟩) 1 1) 1 [.int .u8 a] (w.alloc (.cells #[.int .u8 a] 5)) :=
 Src.ofSlice _ Tryz.underlying85 ⟨w.heap.size, 0, none⟩ 1 1 _ rfl (cell_one_new _ _ _) (by intro u hu; simp at hu; subst hu; rfl)
theorem cell_u8 {H L : Nat} (hH : H < 16) (hL : L < 16) {z : Int} (hz : z = (H : Int) * 16 + (L : Int)) : ([.int .u8 z] : List Value) = bv [UInt8.ofNat (16 * H + L)] := by
 subst hz
 rw [bv_one]
 have : (UInt8.ofNat (16 * H + L)).toNat = 16 * H + L := by rw [UInt8.toNat_ofNat']; omega
 rw [this]
 congr 2
 omega
theorem or_hex (H L : Nat) (hH : H < 16) (hL : L < 16) : bits .or .i64 ((H : Int) * 16) (L : Int) = (H : Int) * 16 + (L : Int) := by
 have h : ∀ a b : Fin 16, bits .or .i64 ((a.val : Int) * 16) (b.val : Int) = (a.val : Int) * 16 + (b.val : Int) := by decide +kernel
 exact h ⟨H, hH⟩ ⟨L, hL⟩
theorem bytes_c (s : ByteArray) (hs : s.size ≤ 1000000) (w : World) : Calls Tryz.prog 16 #[.string s] w fun e w' => e = .returned (.tuple #[.string (text (bytesF (byts s)).1), .int .i64 (bytesF (byts s)).2]) ∧ Below w.heap.size w w' := by
 obtain ⟨i0, hi, hz0, hz1, hz2⟩ := info_parts infoU8
 obtain ⟨R, hR⟩ : ∃ R, bytesF (byts s) = R := ⟨_, rfl⟩
 rw [hR]
 unfold bytesF at hR
 obtain ⟨R1, R2⟩ := R
 dsimp only
 by_cases hodd : s.size % 2 = 1
 ·rw [unhex_odd _ (by rw [byts_length]; exact hodd)] at hR
  obtain ⟨r1, rfl⟩ := Prod.mk.inj hR
  have e1 := Hd (show text R1 = ⟨#[]⟩ by rw [← r1]; rfl)
  have e2 : ((s.size : Int) % 2 != 0) = true := by
   rw [bne_iff_ne]
   omega
  clear hR r1
  go_enter Tryz.func16, Tryz.ntmps16
  go_wp2_with fail
  (try simp only [Exit.inBlock, Exit.then])
  refine bodyPost_ret (by simp [results, Tryz.results16, go_sem]; try rfl) rfl ?_
  exact ⟨by rw [e1.out], Below.refl _ _⟩
 ·have e2 : ((s.size : Int) % 2 != 0) = false := by
   rw [bne_eq_false_iff_eq]
   omega
  replace hR := Hd hR
  go_enter Tryz.func16, Tryz.ntmps16
  go_wp2_with fail
  clear e2
  go_loopw [4, 5] (fun b i wr => ∃ j k : Nat, ∃ D : List UInt8, 2 * k = j ∧ j ≤ s.size ∧ i = .int .i64 j ∧ unhexF ((byts s).take j) = some D ∧ D.length = k ∧ (∃ a c, b = .slice a k c ∧ wr.ownsRow w.heap.size 5 1 (.slice a k c) k (bv D)) ∧ Below w.heap.size w wr) (fun _ i _ => s.size - (intOf i).toNat)
  case atStart => exact ⟨0, 0, [], rfl, Nat.zero_le _, rfl, rfl, rfl, ⟨none, 0, rfl, World.ownsRow_nil w _ _ 1⟩, Below.refl _ _⟩
  case round =>
   obtain ⟨j, k, D, hk, hj, rfl, hD, hDl, ⟨b, d, rfl, hown⟩, hb⟩ := hrel
   have hbz := hb.size
   by_cases hlt : j < s.size
   ·have hltI : (j : Int) < (s.size : Int) := by omega
    have hlt1 : j + 1 < s.size := by omega
    have hltJ : (j : Int) + 1 < (s.size : Int) := by omega
    have q2 : ((j : Int) + 1).toNat = j + 1 := by omega
    have q1 : IntKind.i64.wrap ((j : Int) + 1) = (j : Int) + 1 := IntWalk.i64_in _ (by omega)
    obtain ⟨x, hxj⟩ : ∃ x, s[j] = x := ⟨_, rfl⟩
    obtain ⟨y, hyj⟩ : ∃ y, s[j + 1] = y := ⟨_, rfl⟩
    have hbad := fun hb => unhex_bad hk hlt1 hxj hyj hD hb
    have hgood := fun hb => unhex_step hk hlt1 hxj hyj hD hb
    have cx := fun n => ixb_c x (wr.drewN n)
    have cy := fun n => ixb_c y (wr.drewN n)
    have bx := dgtF_bd x
    have bY := dgtF_bd y
    generalize dgtF x = X at *
    generalize dgtF y = Y at *
    clear hD
    replace cx := Hd cx
    replace cy := Hd cy
    by_cases hneg : X < 0 ∨ Y < 0
    ·have hr := hR.out
     rw [hbad hneg] at hr
     obtain ⟨r1, rfl⟩ := Prod.mk.inj hr
     have e1 := Hd (show text R1 = ⟨#[]⟩ by rw [← r1]; rfl)
     have hm : min X Y < 0 := by omega
     clear hR hr r1 hbad hgood hown hneg
     replace hb := Hd hb
     go_wp2_with fail
     go_quiet (first | (exact Calls.quiet_of_same (cx.out _)) | (exact Calls.quiet_of_same (cy.out _)))
     go_wp2_with fail
     (try simp only [Exit.inBlock, Exit.then])
     refine bodyPost_ret (by simp [results, Tryz.results16, go_sem]; try rfl) rfl ?_
     exact ⟨by rw [e1.out], below_drewN hb.out⟩
    ·have hst := hgood hneg
     have hm : ¬ min X Y < 0 := by omega
     obtain ⟨H, rfl⟩ := Int.eq_ofNat_of_zero_le (show 0 ≤ X by omega)
     obtain ⟨L, rfl⟩ := Int.eq_ofNat_of_zero_le (show 0 ≤ Y by omega)
     have ho : bits .or .i64 ((H : Int) * 16) (L : Int) = (H : Int) * 16 + (L : Int) := or_hex H L (by omega) (by omega)
     simp only [Int.toNat_natCast] at hst
     clear hbad hgood hneg
     replace hst := Hd hst
     replace hb := Hd hb
     replace hown := Hd hown
     replace hDl := Hd hDl
     replace hk := Hd hk
     go_wp2_with fail
     go_quiet (first | (exact Calls.quiet_of_same (cx.out _)) | (exact Calls.quiet_of_same (cy.out _)))
     have hown1 : (wr.drewN nq).ownsRow w.heap.size 5 1 (.slice b k d) k (bv D) := hown.out
     have hb1 := below_drewN (k := nq) hb.out
     obtain ⟨wd, hwd⟩ : ∃ wd, wr.drewN nq = wd := ⟨_, rfl⟩
     rw [hwd] at hown1 hb1 ⊢
     have hb1s := hb1.size
     replace hown1 := Hd hown1
     replace hb1 := Hd hb1
     clear hwd hown hb cx cy
     have hsrc := src_b wd ((H : Int) * 16 + (L : Int))
     go_wp2_with (at_builtin; refine wpList_append_own_src _ rfl (.tmp 31) (.tmp 37) 85 85 rfl w.heap.size 5 i0 (.int .u8 0) 1 1 Tryz.underlying85 hi hz0 hz1 hz2 rfl rfl (World.ownsRow.alloc hown1.out _) rfl hsrc ?_ ?_ ?_ ?_)
     ·have := hk.out; unfold maxLen; omega
     ·have := hk.out; omega
     ·(try rw [size_alloc]); omega
     intro b' c' w4 hown3 hg1
     have hfin := Hd (Below.grown (hb1.out.alloc hb1s (.cells #[.int .u8 ((H : Int) * 16 + (L : Int))] 5)) hg1 (by rw [size_alloc]; omega) (fun q hq => by have := World.ownsRow.lt hown1.out q hq; omega))
     rw [cell_u8 (by omega) (by omega) rfl, ← bv_append] at hown3
     replace hown3 := Hd hown3
     clear hg1 hsrc hown1 hb1
     go_wp2_with fail
     go_roundw
     case rel => first | exact ⟨j + 2, k + 1, D ++ [UInt8.ofNat (16 * H + L)], by have := hk.out; omega, by omega, by go_num, hst.out, by rw [List.length_append, hDl.out]; rfl, ⟨b', c', rfl, hown3.out⟩, hfin.out⟩ | ((repeat apply Exists.intro); exact ⟨⟨j + 2, k + 1, D ++ [UInt8.ofNat (16 * H + L)], by have := hk.out; omega, by omega, by go_num, hst.out, by rw [List.length_append, hDl.out]; rfl, ⟨b', c', rfl, hown3.out⟩, hfin.out⟩, rfl⟩)
     case measure => simp [intOf]; omega
   ·obtain rfl : j = s.size := by omega
    rw [← byts_length s, List.take_length] at hD
    have hstr := run_string_own (P := Tryz.prog) wr 85 9 5 Tryz.underlying85 Tryz.underlying5 Tryz.underlying9 hown
    have hr := hR.out
    rw [hD] at hr
    obtain ⟨r1, rfl⟩ := Prod.mk.inj hr
    have e1 := Hd (show text R1 = text D by rw [r1])
    clear hR hr r1 hD hown
    replace hb := Hd hb
    go_wp2_with fail
    (try simp only [Exit.inBlock, Exit.then])
    refine bodyPost_ret (by simp [results, Tryz.results16, go_sem]; try rfl) rfl ?_
    exact ⟨by rw [e1.out], hb.out⟩
namespace Tl
theorem segsQ_len (q : UInt8) : ∀ l : List UInt8, (segsQ q l).length ≤ l.length + 1
 | [] => Nat.le_refl _
 | c :: r => by
   have ih := segsQ_len q r
   by_cases hc : c = q
   ·subst hc
    rw [segsQ_plus]
    simp
    exact ih
   ·obtain ⟨y, t, h1, h2⟩ := segsQ_cons q c r hc
    rw [h2]
    rw [h1] at ih
    simp at ih ⊢
    omega
theorem segsQ_mem (q : UInt8) : ∀ l : List UInt8, ∀ x ∈ segsQ q l, x.length ≤ l.length
 | [] => by intro x hx; rw [List.mem_singleton.1 hx]; exact Nat.le_refl _
 | c :: r => by
   intro x hx
   have ih := segsQ_mem q r
   by_cases hc : c = q
   ·subst hc
    rw [segsQ_plus] at hx
    rcases List.mem_cons.1 hx with rfl | hx
    ·exact Nat.zero_le _
    ·have := ih x hx
     simp
     omega
   ·obtain ⟨y, t, h1, h2⟩ := segsQ_cons q c r hc
    rw [h2] at hx
    rw [h1] at ih
    rcases List.mem_cons.1 hx with rfl | hx
    ·have := ih y (List.mem_cons_self ..)
     simp
     exact this
    ·have := ih x (List.mem_cons_of_mem _ hx)
     simp
     omega
end Tl
namespace Tl
end Tl
namespace Tl
end Tl
namespace Tl
/-- a text tells its number -/
theorem text_form' (x : WI) (ho : x.Ok) (hf : x.form = true) : parseF (textF x) = (x, 0) := by
 obtain ⟨s, hs, ex, vx⟩ := words x ho hf
 have hz : x.sz.toNat = s := by
  rw [ex]
  have := nw_sz s
  unfold WI.sz at *
  dsimp only at *
  omega
 have hnz : x.n = true → s ≠ 0 := by
  intro hn h0
  have h1 := form_neg hf hn
  rw [ex] at h1
  dsimp only at h1
  rw [nil2_nw, h0] at h1
  cases h1
 have hd : digOf (textF x) = digs s ∧ decide ((textF x).head? = some 45) = x.n := by
  unfold textF
  rw [if_pos hf, hz]
  cases hn : x.n with
  | true => exact ⟨rfl, rfl⟩
  | false =>
    rw [if_neg (by decide), List.nil_append]
    have hne : ¬ (digs s).head? = some 45 := by
     intro h
     have hall := digs_all s
     cases hd : digs s with
     | nil => exact digs_ne s hd
     | cons c r =>
       rw [hd] at h hall
       have : c = 45 := by simpa using h
       subst this
       rw [List.all_cons] at hall
       have : isDig 45 = false := by decide
       rw [this] at hall
       cases hall
    refine ⟨?_, decide_eq_false hne⟩
    unfold digOf
    rw [if_neg hne]
 have hi : isDigs (digs s) = true := by
  unfold isDigs
  rw [digs_all]
  cases h : digs s with
  | nil => exact absurd h (digs_ne s)
  | cons c r => rfl
 unfold parseF
 rw [hd.1, hd.2, hi, digs_val, if_neg, if_neg, if_pos hs, ← vx, mk_of ho hf]
 ·have := digs_len 38 s (Nat.lt_trans hs (by decide))
  omega
 ·rintro (h | ⟨h1, h2⟩)
  ·cases h
  ·have h0 : s = 0 := Classical.byContradiction fun hh => digs_head s hh h1
   refine h2 ?_
   unfold textF
   rw [if_pos hf, hz]
   cases hn : x.n with
   | true => exact absurd h0 (hnz hn)
   | false =>
     rw [h0, digs]
     rfl
def Dg (c : UInt8) : Prop := c.toNat = 45 ∨ (48 ≤ c.toNat ∧ c.toNat ≤ 57)
theorem digs_dg (n : Nat) : ∀ c ∈ digs n, Dg c := by
 intro c hc
 have h := List.all_eq_true.1 (digs_all n) c hc
 unfold isDig at h
 simp at h
 exact .inr h
theorem itoa_eq (n : Int) : Lib.itoa n = if n < 0 then 45 :: digs n.natAbs else digs n.toNat := by
 unfold Lib.itoa
 rw [dec_digs, dec_digs]
theorem itoa_dg (n : Int) : ∀ c ∈ Lib.itoa n, Dg c := by
 intro c hc
 rw [itoa_eq] at hc
 split at hc
 ·rcases List.mem_cons.1 hc with rfl | hc
  ·exact .inl rfl
  ·exact digs_dg _ c hc
 ·exact digs_dg _ c hc
theorem textF_dg (x : WI) : ∀ c ∈ textF x, Dg c := by
 intro c hc
 unfold textF at hc
 split at hc
 ·rcases List.mem_append.1 hc with hc | hc
  ·split at hc
   ·rw [List.mem_singleton.1 hc]; exact .inl rfl
   ·cases hc
  ·exact digs_dg _ c hc
 ·cases hc
theorem dg_ne {l : List UInt8} (h : ∀ c ∈ l, Dg c) (q : UInt8) (hq : ¬ Dg q) : q ∉ l := fun hm => hq (h q hm)
theorem not_dg {q : UInt8} (h : q.toNat ≠ 45) (h2 : q.toNat < 48 ∨ 57 < q.toNat) : ¬ Dg q := by
 unfold Dg
 omega
theorem mem_joinQ {q c : UInt8} : ∀ {l : List (List UInt8)}, c ∈ Lib.join l [q] → c = q ∨ ∃ x ∈ l, c ∈ x := by
 intro l hc
 cases l with
 | nil => cases hc
 | cons x r =>
   rw [Lib.join_cons] at hc
   rcases List.mem_append.1 hc with hc | hc
   ·exact .inr ⟨x, List.mem_cons_self .., hc⟩
   ·unfold Lib.joinTail at hc
    obtain ⟨y, hy, hcy⟩ := List.mem_flatten.1 hc
    obtain ⟨z, hz, rfl⟩ := List.mem_map.1 hy
    rcases List.mem_append.1 hcy with h | h
    ·exact .inl (List.mem_singleton.1 h)
    ·exact .inr ⟨z, List.mem_cons_of_mem _ hz, h⟩
theorem valF_mem {v : List WI} {c : UInt8} (h : c ∈ valF v) : c.toNat = 44 ∨ Dg c := by
 unfold valF at h
 split at h
 ·rw [List.mem_singleton.1 h]; exact .inr (.inl rfl)
 ·rcases mem_joinQ h with rfl | ⟨x, hx, hc⟩
  ·exact .inl rfl
  ·obtain ⟨y, _, rfl⟩ := List.mem_map.1 hx
   exact .inr (textF_dg y c hc)
theorem partT_mem {p : PartD} {c : UInt8} (h : c ∈ partT p) : c.toNat = 61 ∨ c.toNat = 44 ∨ Dg c := by
 unfold partT at h
 rcases List.mem_append.1 h with h | h
 ·rcases List.mem_append.1 h with h | h
  ·exact .inr (.inr (itoa_dg _ c h))
  ·rw [List.mem_singleton.1 h]; exact .inl rfl
 ·rcases valF_mem h with h | h
  ·exact .inr (.inl h)
  ·exact .inr (.inr h)
theorem partT_blank (p : PartD) : (32 : UInt8) ∉ partT p := fun h => by
 rcases partT_mem h with h | h | h
 ·exact absurd h (by decide)
 ·exact absurd h (by decide)
 ·exact not_dg (by decide) (by decide) h
theorem itoa_blank (n : Int) : (32 : UInt8) ∉ Lib.itoa n := dg_ne (itoa_dg n) 32 (not_dg (by decide) (by decide))
theorem itoa_eqs (n : Int) : (61 : UInt8) ∉ Lib.itoa n := dg_ne (itoa_dg n) 61 (not_dg (by decide) (by decide))
theorem textF_comma (x : WI) : (44 : UInt8) ∉ textF x := dg_ne (textF_dg x) 44 (not_dg (by decide) (by decide))
theorem partT_ne (p : PartD) : partT p ≠ [] := by
 unfold partT
 simp
theorem pu_app (l m : List UInt8) (acc v : Nat) (h : Lib.parseUint10 acc l = .ok v) : Lib.parseUint10 acc (l ++ m) = Lib.parseUint10 v m := by
 induction l generalizing acc with
 | nil =>
   rw [Lib.parseUint10] at h
   cases h
   rfl
 | cons c r ih =>
   rw [Lib.parseUint10] at h
   rw [List.cons_append, Lib.parseUint10]
   split at h
   ·rename_i h1
    rw [if_pos h1]
    split at h
    ·cases h
    ·rename_i h2
     rw [if_neg h2]
     split at h
     ·cases h
     ·rename_i h3
      rw [if_neg h3]
      exact ih _ h
   ·cases h
theorem pu_digs (n : Nat) (h : n < 18446744073709551616) : Lib.parseUint10 0 (digs n) = .ok n := by
 induction n using Nat.strongRecOn with
 | _ n ih =>
   have hd : (UInt8.ofNat (48 + n % 10)).toNat = 48 + n % 10 := dig_toNat (Nat.mod_lt _ (by decide))
   by_cases h1 : n < 10
   ·rw [digs, if_pos h1]
    unfold Lib.parseUint10
    rw [dig_toNat h1, if_pos (by omega), if_neg (by omega), if_neg (by omega)]
    unfold Lib.parseUint10
    congr 1
    omega
   ·rw [digs, if_neg h1, pu_app _ _ _ _ (ih (n / 10) (by omega) (by omega))]
    unfold Lib.parseUint10
    rw [hd, if_pos (by omega), if_neg (by omega), if_neg (by omega)]
    unfold Lib.parseUint10
    congr 1
    omega
theorem atoi_itoa (n : Int) (h : i64 n) : atoiV (Lib.itoa n) = n := by
 obtain ⟨h0, h1⟩ := h
 have e : Lib.atoiAll (Lib.itoa n) = .ok n := by
  rw [itoa_eq]
  by_cases hn : n < 0
  ·rw [if_pos hn]
   unfold Lib.atoiAll Lib.parseMag
   have e1 : ((45 : UInt8).toNat = 43 ∨ (45 : UInt8).toNat = 45) := .inr rfl
   simp only [if_pos e1]
   rw [if_neg (digs_ne _), pu_digs _ (by omega)]
   have e2 : (45 : UInt8).toNat = 45 := rfl
   simp only [e2]
   rw [if_neg (by rintro ⟨h, _⟩; exact h trivial), if_neg (by rintro ⟨_, h⟩; omega), if_pos trivial]
   congr 1
   omega
  ·rw [if_neg hn]
   have hd := digs_all n.toNat
   have hne := digs_ne n.toNat
   have hp := pu_digs n.toNat (by omega)
   cases hc : digs n.toNat with
   | nil => exact absurd hc hne
   | cons c r =>
     rw [hc] at hd hp
     rw [List.all_cons, Bool.and_eq_true] at hd
     have hd1 := hd.1
     unfold isDig at hd1
     simp at hd1
     unfold Lib.atoiAll Lib.parseMag
     have e1 : ¬ (c.toNat = 43 ∨ c.toNat = 45) := by omega
     have e2 : ¬ (c.toNat = 45) := by omega
     simp only [if_neg e1]
     rw [if_neg (by simp), hp]
     simp only [e2]
     rw [if_neg (by omega), if_neg (by omega), if_neg (by simp)]
     congr 1
     omega
 unfold atoiV
 rw [e]
theorem cut_app (x y sp : List UInt8) (c : UInt8) (t : List UInt8) (hs : sp = c :: t) (h : c ∉ x) : Lib.cut (x ++ sp ++ y) sp = (x, y, true) := by
 have hi : Lib.index (x ++ sp ++ y) sp = x.length := by
  induction x with
  | nil =>
    rw [List.nil_append, hs]
    unfold Lib.index
    have : (c :: t).isPrefixOf (c :: t ++ y) = true := by simp
    show (if (c :: t).isPrefixOf (c :: t ++ y) = true then (0 : Int) else _) = _
    rw [if_pos this]
    rfl
  | cons b r ih =>
    simp only [List.mem_cons, not_or] at h
    have ih := ih h.2
    rw [List.cons_append, List.cons_append]
    unfold Lib.index
    have hp : sp.isPrefixOf (b :: (r ++ sp ++ y)) = false := by
     rw [hs]
     simp [List.isPrefixOf, h.1]
    rw [hp, ih]
    rw [if_neg (by decide), if_neg (by rw [beq_iff_eq]; omega)]
    simp
 unfold Lib.cut
 rw [hi, if_pos (by omega)]
 have e : ((x.length : Int)).toNat = x.length := by omega
 rw [e]
 refine Prod.ext ?_ (Prod.ext ?_ rfl)
 ·simp
 ·show (x ++ sp ++ y).drop (x.length + sp.length) = y
  rw [← List.length_append, List.drop_left]
theorem cut_no (x : List UInt8) (c : UInt8) (h : c ∉ x) : Lib.cut x [c] = (x, [], false) := by
 have hi : Lib.index x [c] = -1 := by
  rw [Lib.index_one]
  induction x with
  | nil => rfl
  | cons b r ih =>
    simp only [List.mem_cons, not_or] at h
    unfold Lib.indexByte
    rw [if_neg (fun e => h.1 (beq_iff_eq.1 e).symm), ih h.2]
    rfl
 unfold Lib.cut
 rw [hi, if_neg (by decide)]
theorem cut_one (x y : List UInt8) (c : UInt8) (h : c ∉ x) : Lib.cut (x ++ c :: y) [c] = (x, y, true) := by
 have := cut_app x y [c] c [] rfl h
 rw [List.append_assoc] at this
 exact this
theorem join_two (q : UInt8) (x y : List UInt8) (r : List (List UInt8)) : Lib.join (x :: y :: r) [q] = x ++ q :: Lib.join (y :: r) [q] := by
 rw [Lib.join_cons, Lib.join_cons]
 unfold Lib.joinTail
 simp
/-- a row's first word, and the rest -/
theorem cut_join (w : List UInt8) (r : List (List UInt8)) (h : (32 : UInt8) ∉ w) : Lib.cut (Lib.join (w :: r) [32]) [32] = (w, Lib.join r [32], !r.isEmpty) := by
 cases r with
 | nil =>
   rw [Lib.join_one, cut_no _ _ h]
   rfl
 | cons y r =>
   rw [join_two, cut_one _ _ _ h]
   rfl
def cutPartF (s : List UInt8) : PartD × Bool :=
 let c := Lib.cut s [61]
 let p : PartD := ⟨atoiV c.1, if c.2.1 = [45] then [] else (segsQ 44 c.2.1).map fun t => (parseF t).1⟩
 (p, decide (p.V.length ≤ 100) && decide (partT p = s))
def cutF (s : List UInt8) : Int × List PartD × Int :=
 let w := segsQ 32 s
 let e := entF (atoiV (w.getD 1 [])) (atoiV (w.getD 2 []))
 let ps := (w.drop 3).map cutPartF
 let l := ps.map Prod.fst
 if (decide (e ≠ 0) && ps.all Prod.snd) = true ∧ risF l = true ∧ whoT e l = s then (e, l, 0) else (0, [], 4)
theorem valF_minus {v : List WI} (hv : ∀ x ∈ v, x.form = true) : valF v = [45] ↔ v = [] := by
 constructor
 ·intro h
  cases v with
  | nil => rfl
  | cons x r =>
    exfalso
    unfold valF at h
    rw [if_neg (by simp), List.map_cons, Lib.join_cons] at h
    have hf := hv x (List.mem_cons_self ..)
    unfold textF at h
    rw [if_pos hf] at h
    have hd := digs_ne x.sz.toNat
    have hda := digs_dg x.sz.toNat
    have hal := digs_all x.sz.toNat
    cases hc : digs x.sz.toNat with
    | nil => exact hd hc
    | cons c t =>
      rw [hc] at h hal
      rw [List.all_cons, Bool.and_eq_true] at hal
      have h1 := hal.1
      unfold isDig at h1
      simp at h1
      split at h
      ·have := congrArg List.length h
       simp at this
      ·rw [List.nil_append, List.cons_append] at h
       have := (List.cons.inj h).1
       rw [this] at h1
       exact absurd h1 (by decide)
 ·rintro rfl
  rfl
theorem map_parse {v : List WI} (hv : ∀ x ∈ v, x.Ok ∧ x.form = true) : (v.map textF).map (fun t => (parseF t).1) = v := by
 rw [List.map_map]
 conv => rhs; rw [← List.map_id v]
 refine List.map_congr_left fun x hx => ?_
 show (parseF (textF x)).1 = x
 rw [text_form' x (hv x hx).1 (hv x hx).2]
theorem part_form {p : PartD} (h : isPartF p.V = true) : p.V.length ≤ 100 ∧ ∀ x ∈ p.V, x.form = true := by
 unfold isPartF at h
 rw [Bool.and_eq_true] at h
 exact ⟨of_decide_eq_true h.1, fun x hx => List.all_eq_true.1 h.2 x hx⟩
theorem cutPart_back (p : PartD) (hp : p.Ok) (hf : isPartF p.V = true) : cutPartF (partT p) = (p, true) := by
 obtain ⟨C, v⟩ := p
 obtain ⟨p0, p1, hv⟩ := hp
 obtain ⟨hl, hvf⟩ := part_form hf
 dsimp only at *
 have hc : Lib.cut (partT ⟨C, v⟩) [61] = (Lib.itoa C, valF v, true) := by
  unfold partT
  dsimp only
  exact cut_app _ _ [61] 61 [] rfl (itoa_eqs C)
 have hV : (if valF v = [45] then [] else (segsQ 44 (valF v)).map fun t => (parseF t).1) = v := by
  by_cases h0 : v = []
  ·subst h0; rfl
  ·rw [if_neg (fun e => h0 ((valF_minus hvf).1 e))]
   have h1 : valF v = Lib.join (v.map textF) [44] := if_neg (fun e => h0 (List.eq_nil_of_length_eq_zero e))
   rw [h1]
   have h2 : segsQ 44 (Lib.join (v.map textF) [44]) = v.map textF := by
    cases hv2 : v.map textF with
    | nil => exact absurd (List.map_eq_nil_iff.1 hv2) h0
    | cons x xs =>
      refine segsQ_join 44 x xs fun y hy => ?_
      rw [← hv2] at hy
      obtain ⟨z, _, rfl⟩ := List.mem_map.1 hy
      exact textF_comma z
   rw [h2, map_parse (fun x hx => ⟨hv x hx, hvf x hx⟩)]
 unfold cutPartF
 simp only [hc, hV, atoi_itoa C ⟨p0, p1⟩]
 simp [hl]
theorem whoL_blank (e : Int) (ps : List PartD) : ∀ y ∈ whoL e ps, (32 : UInt8) ∉ y := by
 intro y hy
 unfold whoL at hy
 rcases List.mem_append.1 hy with hy | hy
 ·simp only [List.mem_cons, List.not_mem_nil, or_false] at hy
  rcases hy with rfl | rfl | rfl
  ·decide
  ·exact itoa_blank _
  ·exact itoa_blank _
 ·obtain ⟨p, _, rfl⟩ := List.mem_map.1 hy
  exact partT_blank p
theorem segs_who (e : Int) (ps : List PartD) : segsQ 32 (whoT e ps) = whoL e ps := by
 have hb := whoL_blank e ps
 unfold whoT
 cases h : whoL e ps with
 | nil => unfold whoL at h; cases h
 | cons x xs =>
   rw [h] at hb
   exact segsQ_join 32 x xs hb
theorem ent_back {e : Int} (h : isEntF e = true) (hu : u64 e) : entF (idF e) (genF e) = e ∧ e ≠ 0 ∧ i64 (idF e) ∧ i64 (genF e) := by
 unfold isEntF at h
 rw [Bool.and_eq_true] at h
 have h1 := of_decide_eq_true h.1
 have h2 := of_decide_eq_true h.2
 unfold idF at *
 unfold genF at *
 unfold u64 at hu
 unfold i64
 refine ⟨?_, by omega, by omega, by omega⟩
 unfold entF
 rw [if_pos (by omega)]
 omega
theorem isParts_part {ps : List PartD} (h : isPartsF ps = true) : risF ps = true ∧ ∀ p ∈ ps, isPartF p.V = true := by
 unfold isPartsF at h
 rw [Bool.and_eq_true] at h
 refine ⟨h.1, fun p hp => ?_⟩
 have h2 := h.2
 rw [Bool.not_eq_true'] at h2
 have h3 := (List.any_eq_false.1 h2) p hp
 simpa using h3
theorem cut_back (e : Int) (he : isEntF e = true) (hu : u64 e) (ps : List PartD) (hp : isPartsF ps = true) (hok : ∀ p ∈ ps, p.Ok) : cutF (whoT e ps) = (e, ps, 0) := by
 obtain ⟨h1, h2, h3, h4⟩ := ent_back he hu
 obtain ⟨hr, hpf⟩ := isParts_part hp
 have hL : whoL e ps = [101] :: Lib.itoa (idF e) :: Lib.itoa (genF e) :: ps.map partT := rfl
 have hm : ((ps.map partT).map cutPartF) = ps.map (fun p => (p, true)) := by
  rw [List.map_map]
  refine List.map_congr_left fun p hpm => ?_
  exact cutPart_back p (hok p hpm) (hpf p hpm)
 have hm1 : (ps.map (fun p => (p, true))).map Prod.fst = ps := by
  rw [List.map_map]
  conv => rhs; rw [← List.map_id ps]
  exact List.map_congr_left fun p _ => rfl
 have hm2 : (ps.map (fun p => (p, true))).all Prod.snd = true := by
  rw [List.all_eq_true]
  intro x hx
  obtain ⟨p, _, rfl⟩ := List.mem_map.1 hx
  rfl
 unfold cutF
 simp only [segs_who, hL, List.getD_cons_succ, List.getD_cons_zero, List.drop_succ_cons, List.drop_zero, atoi_itoa _ h3, atoi_itoa _ h4, h1, hm, hm1, hm2]
 rw [if_pos ⟨by rw [decide_eq_true h2]; rfl, hr, trivial⟩]
def notL : List UInt8 := [32, 110, 111, 116, 32]
def qText (a n : Int) : List UInt8 := textS a.toNat ++ notL ++ textS n.toNat
def wordB (k : Int) : List UInt8 := byts (wordL.getD k.toNat sS)
def handF (e : Int) (ps : List PartD) : List (List UInt8) := Lib.itoa (idF e) :: Lib.itoa (genF e) :: ps.map partT
/-- the words behind an op's first one -/
def rest1F (o : OpD) : List (List UInt8) :=
 if o.K = 1 then o.P.map partT else if o.K = 2 then handF o.E o.P else if o.K = 3 then handF o.E o.P else if o.K = 5 then handF o.E o.P
 else if o.K = 4 then handF o.E [] ++ [Lib.itoa o.C] else if o.K = 6 then handF o.E [] ++ [Lib.itoa o.C] else if o.K = 7 then [qText o.A o.N]
 else if o.K = 9 then [Lib.itoa o.U] else if o.K = 10 then (if o.B.size = 0 then [] else [hexF (byts o.B)]) else []
def told1F (o : OpD) : List UInt8 := Lib.join (wordB o.K :: rest1F o) [32]
def line1F (o : OpD) : List UInt8 := if is1F o = true then told1F o else []
def restF (o : OpD) : List (List UInt8) := if o.K = 8 then [line1F (asOpF o.cK o.cE o.cC o.cP)] else rest1F o
def lineF (o : OpD) : List UInt8 := if isOpF o = true then Lib.join (wordB o.K :: restF o) [32] else []
def parseQF (l : List UInt8) : Int × Int × Int :=
 let c := Lib.cut l notL
 let a := (parseS (text c.1)).1
 let n := (parseS (text c.2.1)).1
 if textS a ++ notL ++ textS n = l then ((a : Int), (n : Int), 0) else (0, 0, 4)
def kindOf (w : List UInt8) : Int := Lib.idxOfS (wordL.drop 1) (text w) + 1
def wAt (t : List UInt8) (i : Nat) : List UInt8 := (segsQ 32 t).getD i []
def gO (k : Int) (t : List UInt8) : OpD :=
 if k = 1 then ⟨k, 0, 0, (cutF ([101, 32, 49, 32, 49] ++ behF t)).2.1, 0, 0, 0, 0, 0, [], 0, sS⟩
 else if k = 2 then ⟨k, (cutF ([101, 32] ++ t)).1, 0, (cutF ([101, 32] ++ t)).2.1, 0, 0, 0, 0, 0, [], 0, sS⟩
 else if k = 3 then ⟨k, (cutF ([101, 32] ++ t)).1, 0, (cutF ([101, 32] ++ t)).2.1, 0, 0, 0, 0, 0, [], 0, sS⟩
 else if k = 5 then ⟨k, (cutF ([101, 32] ++ t)).1, 0, (cutF ([101, 32] ++ t)).2.1, 0, 0, 0, 0, 0, [], 0, sS⟩
 else if k = 4 then ⟨k, entF (atoiV (wAt t 0)) (atoiV (wAt t 1)), atoiV (wAt t 2), [], 0, 0, 0, 0, 0, [], 0, sS⟩
 else if k = 6 then ⟨k, entF (atoiV (wAt t 0)) (atoiV (wAt t 1)), atoiV (wAt t 2), [], 0, 0, 0, 0, 0, [], 0, sS⟩
 else if k = 7 then ⟨k, 0, 0, [], (parseQF t).1, (parseQF t).2.1, 0, 0, 0, [], 0, sS⟩
 else if k = 9 then ⟨k, 0, 0, [], 0, 0, 0, 0, 0, [], atoiV t, sS⟩
 else if k = 10 then ⟨k, 0, 0, [], 0, 0, 0, 0, 0, [], 0, text (bytesF t).1⟩
 else ⟨k, 0, 0, [], 0, 0, 0, 0, 0, [], 0, sS⟩
def guess1F (l : List UInt8) : OpD := gO (kindOf (Lib.cut l [32]).1) (Lib.cut l [32]).2.1
def asCmdK (k : Int) : Int := Lib.idxOf [0, 1, 2, 3, 5, 4] k
def guessF (l : List UInt8) : OpD :=
 let t := (Lib.cut l [32]).2.1
 if kindOf (Lib.cut l [32]).1 = 8 ∧ (Lib.cut t [32]).1 ≠ (Lib.cut l [32]).1 then ⟨8, 0, 0, [], 0, 0, asCmdK (guess1F t).K, (guess1F t).E, (guess1F t).C, (guess1F t).P, 0, sS⟩ else guess1F l
theorem kind_word (k : Int) (h0 : 1 ≤ k) (h1 : k ≤ 11) : kindOf (wordB k) = k ∧ (32 : UInt8) ∉ wordB k := by
 have h : ∀ n : Fin 11, kindOf (wordB ((n.val : Int) + 1)) = (n.val : Int) + 1 ∧ (32 : UInt8) ∉ wordB ((n.val : Int) + 1) := by decide +kernel
 have := h ⟨(k - 1).toNat, by omega⟩
 have e : (((k - 1).toNat : Int)) + 1 = k := by omega
 dsimp only at this
 rw [e] at this
 exact this
theorem guess_told (k : Int) (r : List (List UInt8)) (h0 : 1 ≤ k) (h1 : k ≤ 11) : guess1F (Lib.join (wordB k :: r) [32]) = gO k (Lib.join r [32]) := by
 obtain ⟨h, hb⟩ := kind_word k h0 h1
 unfold guess1F
 rw [cut_join _ _ hb]
 dsimp only
 rw [h]
theorem tail_beh (r : List (List UInt8)) (h : ∀ x ∈ r, x ≠ []) : Lib.joinTail [32] r = behF (Lib.join r [32]) := by
 cases r with
 | nil => rfl
 | cons y r =>
   have hy := h y (List.mem_cons_self ..)
   rw [Lib.join_cons]
   unfold behF
   rw [if_neg (by intro e; exact hy (List.append_eq_nil_iff.1 e).1)]
   unfold Lib.joinTail
   simp
theorem who_spawn (ps : List PartD) : [101, 32, 49, 32, 49] ++ behF (Lib.join (ps.map partT) [32]) = whoT 4294967297 ps := by
 rw [← tail_beh _ (fun x hx => by obtain ⟨p, _, rfl⟩ := List.mem_map.1 hx; exact partT_ne p)]
 have e : whoL 4294967297 ps = [101] :: [49] :: [49] :: ps.map partT := by
  have h1 : Lib.itoa (idF 4294967297) = [49] := by decide +kernel
  have h2 : Lib.itoa (genF 4294967297) = [49] := by decide +kernel
  unfold whoL
  rw [h1, h2]
  rfl
 unfold whoT
 rw [e, join_two, join_two, Lib.join_cons]
 rfl
theorem who_hand (e : Int) (ps : List PartD) : [101, 32] ++ Lib.join (handF e ps) [32] = whoT e ps := by
 unfold whoT
 have h : whoL e ps = [101] :: Lib.itoa (idF e) :: (Lib.itoa (genF e) :: ps.map partT) := rfl
 rw [h, join_two]
 rfl
theorem segs_hand (e C : Int) : segsQ 32 (Lib.join (handF e [] ++ [Lib.itoa C]) [32]) = [Lib.itoa (idF e), Lib.itoa (genF e), Lib.itoa C] := by
 refine segsQ_join 32 _ [Lib.itoa (genF e), Lib.itoa C] fun y hy => ?_
 simp only [List.mem_cons, List.not_mem_nil, or_false] at hy
 rcases hy with rfl | rfl | rfl <;> exact itoa_blank _
theorem textS_blank (s : Nat) : (32 : UInt8) ∉ textS s := by
 intro h
 unfold textS at h
 split at h
 ·exact absurd h (by decide)
 ·rcases mem_joinQ h with h | ⟨x, hx, hc⟩
  ·exact absurd h (by decide)
  ·obtain ⟨i, _, rfl⟩ := List.mem_map.1 hx
   exact not_dg (by decide) (by decide) (digs_dg _ _ hc)
theorem query_back (a n : Int) (ha : u32 a) (hn : u32 n) (h1 : Sg.isF a.toNat = true) (h2 : Sg.isF n.toNat = true) : parseQF (qText a n) = (a, n, 0) := by
 unfold u32 at ha hn
 have hc : Lib.cut (qText a n) notL = (textS a.toNat, textS n.toNat, true) := cut_app _ _ notL 32 [110, 111, 116, 32] rfl (textS_blank _)
 unfold parseQF
 simp only [hc, Sg.parse_text (show a.toNat < 4294967296 by omega) h1, Sg.parse_text (show n.toNat < 4294967296 by omega) h2]
 rw [if_pos (show textS a.toNat ++ notL ++ textS n.toNat = qText a n from rfl)]
 refine Prod.ext ?_ (Prod.ext ?_ rfl) <;> dsimp only <;> omega
theorem hx_dgt (n : Nat) (h : n < 16) : dgtF (hx n) = n := by
 have : ∀ k : Fin 16, dgtF (hx k.val) = k.val := by decide +kernel
 exact this ⟨n, h⟩
theorem unhex_hex : ∀ l : List UInt8, unhexF (hexF l) = some l
 | [] => rfl
 | c :: r => by
   have hc := c.toNat_lt
   have e : hexF (c :: r) = hx (c.toNat / 16) :: hx (c.toNat % 16) :: hexF r := rfl
   rw [e, unhexF, hx_dgt _ (by omega), hx_dgt _ (by omega), if_neg (by omega), unhex_hex r]
   show some (_ :: r) = some (c :: r)
   congr 2
   have : 16 * ((c.toNat / 16 : Nat) : Int).toNat + ((c.toNat % 16 : Nat) : Int).toNat = c.toNat := by omega
   rw [this]
   simp
theorem bytes_hex (l : List UInt8) : bytesF (hexF l) = (l, 0) := by
 unfold bytesF
 rw [unhex_hex]
theorem ba_nil {B : ByteArray} (h : B.size = 0) : B = sS := by
 have : byts B = [] := List.eq_nil_of_length_eq_zero (by rw [byts_length, h])
 rw [← text_byts B, this]
 rfl
theorem OpD.ext' {x o : OpD} (h0 : x.K = o.K) (h1 : x.E = o.E) (h2 : x.C = o.C) (h3 : x.P = o.P) (h4 : x.A = o.A) (h5 : x.N = o.N) (h6 : x.cK = o.cK) (h7 : x.cE = o.cE) (h8 : x.cC = o.cC) (h9 : x.cP = o.cP) (ha : x.U = o.U) (hb : x.B = o.B) : x = o := by
 cases x; cases o; simp_all
theorem named_eq {o : OpD} (h : isNamedF o = true) : namedF o = o := by
 unfold isNamedF at h
 have hs := of_decide_eq_true h
 obtain ⟨h1, h2, h3, h4, h5, ⟨h6, h7, h8, h9⟩, h10, h11⟩ := hs
 refine OpD.ext' ?_ h1 h2 ?_ h4 h5 h6 h7 h8 h9 h10 (byts_inj h11)
 ·unfold namedF; repeat' split
  all_goals rfl
 ·have h0 : (namedF o).P = o.P ∨ (namedF o).P = [] := by
   by_cases g : o.K = 1 ∨ o.K = 3 ∨ o.K = 5
   ·left
    unfold namedF
    rcases g with g | g | g <;> simp [g]
   ·right
    unfold namedF
    repeat' split
    all_goals first | rfl | (exfalso; omega)
  rcases h0 with h0 | h0
  ·exact h0
  ·rw [h0] at h3 ⊢
   exact (List.eq_nil_of_length_eq_zero h3.symm).symm
theorem told_back (o : OpD) (ok : o.Ok) (h : is1F o = true) : guess1F (told1F o) = o := by
 unfold is1F at h
 rw [Bool.and_eq_true, Bool.and_eq_true] at h
 obtain ⟨⟨hn, hp⟩, ha⟩ := h
 have hne := named_eq hn
 have hE := ok.E
 have hC := ok.C
 have hU := ok.U
 unfold told1F
 unfold askF at ha
 unfold rest1F
 by_cases k1 : o.K = 1
 ·rw [guess_told _ _ (by omega) (by omega), k1]
  conv => rhs; rw [← hne]
  unfold gO namedF
  simp only [k1, if_true]
  rw [who_spawn, cut_back 4294967297 (by decide) (by unfold u64; omega) o.P hp ok.P]
 rw [if_neg k1] at ha
 by_cases k11 : o.K = 11
 ·rw [guess_told _ _ (by omega) (by omega), k11]
  conv => rhs; rw [← hne]
  unfold gO namedF
  simp [k11]
 rw [if_neg k11] at ha
 by_cases k2 : o.K = 2
 ·rw [if_pos k2] at ha
  have hP : o.P = [] := by
   rw [← hne]; unfold namedF; simp [k2]
  rw [guess_told _ _ (by omega) (by omega), k2]
  conv => rhs; rw [← hne]
  unfold gO namedF
  simp only [k2]
  simp
  rw [hP] at hp ⊢
  have hw := who_hand o.E []
  simp only [List.cons_append, List.nil_append] at hw
  rw [hw, cut_back o.E ha hE [] hp (by simp)]
  exact ⟨rfl, rfl⟩
 rw [if_neg k2] at ha
 by_cases k3 : o.K = 3
 ·rw [if_pos k3, Bool.and_eq_true] at ha
  rw [guess_told _ _ (by omega) (by omega), k3]
  conv => rhs; rw [← hne]
  unfold gO namedF
  simp only [k3]
  simp
  have hw := who_hand o.E o.P
  simp only [List.cons_append, List.nil_append] at hw
  rw [hw, cut_back o.E ha.1 hE o.P hp ok.P]
  exact ⟨rfl, rfl⟩
 rw [if_neg k3] at ha
 by_cases k5 : o.K = 5
 ·rw [if_pos k5, Bool.and_eq_true] at ha
  rw [guess_told _ _ (by omega) (by omega), k5]
  conv => rhs; rw [← hne]
  unfold gO namedF
  simp only [k5]
  simp
  have hw := who_hand o.E o.P
  simp only [List.cons_append, List.nil_append] at hw
  rw [hw, cut_back o.E ha.1 hE o.P hp ok.P]
  exact ⟨rfl, rfl⟩
 rw [if_neg k5] at ha
 by_cases k4 : o.K = 4
 ·rw [if_pos k4, Bool.and_eq_true] at ha
  obtain ⟨e1, e2, e3, e4⟩ := ent_back ha.1 hE
  rw [guess_told _ _ (by omega) (by omega), k4]
  conv => rhs; rw [← hne]
  unfold gO namedF
  simp only [k4]
  simp
  unfold wAt
  rw [show handF o.E [] ++ [Lib.itoa o.C] = handF o.E [] ++ [Lib.itoa o.C] from rfl, segs_hand]
  simp [atoi_itoa _ e3, atoi_itoa _ e4, atoi_itoa _ hC, e1]
 rw [if_neg k4] at ha
 by_cases k6 : o.K = 6
 ·rw [if_pos k6, Bool.and_eq_true] at ha
  obtain ⟨e1, e2, e3, e4⟩ := ent_back ha.1 hE
  rw [guess_told _ _ (by omega) (by omega), k6]
  conv => rhs; rw [← hne]
  unfold gO namedF
  simp only [k6]
  simp
  unfold wAt
  rw [segs_hand]
  simp [atoi_itoa _ e3, atoi_itoa _ e4, atoi_itoa _ hC, e1]
 rw [if_neg k6] at ha
 by_cases k7 : o.K = 7
 ·rw [if_pos k7, Bool.and_eq_true] at ha
  rw [guess_told _ _ (by omega) (by omega), k7]
  conv => rhs; rw [← hne]
  unfold gO namedF
  simp only [k7]
  simp [Lib.join_one, query_back o.A o.N ok.A ok.N ha.1 ha.2]
 rw [if_neg k7] at ha
 by_cases k9 : o.K = 9
 ·rw [guess_told _ _ (by omega) (by omega), k9]
  conv => rhs; rw [← hne]
  unfold gO namedF
  simp only [k9]
  simp [Lib.join_one, atoi_itoa _ hU]
 rw [if_neg k9] at ha
 by_cases k10 : o.K = 10
 ·rw [guess_told _ _ (by omega) (by omega), k10]
  conv => rhs; rw [← hne]
  unfold gO namedF
  simp only [k10]
  simp
  by_cases hB : o.B.size = 0
  ·rw [if_pos (by rw [ba_nil hB]; rfl), ba_nil hB]
   rfl
  ·rw [if_neg (by intro e; rw [e] at hB; exact hB rfl), Lib.join_one, bytes_hex, text_byts]
 rw [if_neg k10] at ha
 cases ha
theorem is1_kind {o : OpD} (h : is1F o = true) : 1 ≤ o.K ∧ o.K ≤ 11 := by
 unfold is1F at h
 rw [Bool.and_eq_true] at h
 have ha := h.2
 unfold askF at ha
 by_cases g : 1 ≤ o.K ∧ o.K ≤ 11
 ·exact g
 ·exfalso
  rw [if_neg (by omega), if_neg (by omega), if_neg (by omega), if_neg (by omega), if_neg (by omega), if_neg (by omega), if_neg (by omega), if_neg (by omega), if_neg (by omega), if_neg (by omega)] at ha
  cases ha
theorem word_ne (k : Int) (h0 : 1 ≤ k) (h1 : k ≤ 11) (h8 : k ≠ 8) : wordB k ≠ wordB 8 := by
 intro e
 have h := (kind_word k h0 h1).1
 rw [e, (kind_word 8 (by decide) (by decide)).1] at h
 exact h8 h.symm
theorem told_cut (o : OpD) (h : is1F o = true) : (Lib.cut (told1F o) [32]).1 = wordB o.K := by
 obtain ⟨h0, h1⟩ := is1_kind h
 unfold told1F
 rw [cut_join _ _ (kind_word _ h0 h1).2]
theorem cmd_kind (k : Int) (h : isCmd k = true) : asCmdK (kindF k) = k := by
 unfold isCmd at h
 rw [Bool.and_eq_true] at h
 have h1 := of_decide_eq_true h.1
 have h2 := of_decide_eq_true h.2
 have hh : ∀ n : Fin 5, asCmdK (kindF ((n.val : Int) + 1)) = (n.val : Int) + 1 := by decide +kernel
 have := hh ⟨(k - 1).toNat, by omega⟩
 have e : (((k - 1).toNat : Int)) + 1 = k := by omega
 dsimp only at this
 rw [e] at this
 exact this
theorem asOp_ok {o : OpD} (ok : o.Ok) : (asOpF o.cK o.cE o.cC o.cP).Ok := by
 have hz : i64 0 ∧ u64 0 ∧ u32 0 := by unfold i64 u64 u32; omega
 unfold asOpF
 split
 ·refine ⟨?_, ok.cE, ok.cC, ok.cP, hz.2.2, hz.2.2, hz.1, hz.2.1, hz.1, by simp, hz.1⟩
  have := ok.cK
  unfold kindF
  dsimp only
  split
  ·unfold i64; omega
  split
  ·unfold i64; omega
  ·exact this
 ·unfold zeroO
  exact ⟨hz.1, hz.2.1, hz.1, by simp, hz.2.2, hz.2.2, hz.1, hz.2.1, hz.1, by simp, hz.1⟩
/-- WHAT WAS TOLD IS READ AS IT WAS -/
theorem line_back (o : OpD) (ok : o.Ok) (h : isOpF o = true) : guessF (lineF o) = o := by
 unfold lineF
 rw [if_pos h]
 unfold restF
 by_cases k8 : o.K = 8
 ·rw [if_pos k8]
  unfold isOpF at h
  rw [if_pos k8, Bool.and_eq_true, Bool.and_eq_true, Bool.and_eq_true] at h
  obtain ⟨⟨hn, hp⟩, hc, h1⟩ := h
  have hne := named_eq hn
  have hx := told_back _ (asOp_ok ok) h1
  have hk := is1_kind h1
  have hw := told_cut _ h1
  have hk8 := asOp_kind o.cK o.cE o.cC o.cP
  have hl : line1F (asOpF o.cK o.cE o.cC o.cP) = told1F (asOpF o.cK o.cE o.cC o.cP) := if_pos h1
  have hcut : Lib.cut (Lib.join [wordB o.K, line1F (asOpF o.cK o.cE o.cC o.cP)] [32]) [32] = (wordB 8, told1F (asOpF o.cK o.cE o.cC o.cP), true) := by
   rw [cut_join _ _ (kind_word _ (by omega) (by omega)).2, Lib.join_one, hl, k8]
   rfl
  unfold guessF
  simp only [hcut, hw, hx]
  rw [if_pos ⟨(kind_word 8 (by decide) (by decide)).1, word_ne _ hk.1 hk.2 hk8⟩]
  have e : asOpF o.cK o.cE o.cC o.cP = ⟨kindF o.cK, o.cE, o.cC, o.cP, 0, 0, 0, 0, 0, [], 0, sS⟩ := if_pos hc
  rw [e]
  dsimp only
  rw [cmd_kind _ hc]
  conv => rhs; rw [← hne]
  unfold namedF
  simp [k8]
 ·rw [if_neg k8]
  rw [show isOpF o = is1F o from if_neg k8] at h
  have hk := is1_kind h
  have hb := told_back o ok h
  have hcut := told_cut o h
  unfold told1F at hb hcut
  unfold guessF
  simp only [hcut]
  rw [if_neg (by rw [(kind_word _ hk.1 hk.2).1]; exact fun e => k8 e.1), hb]
end Tl
theorem text_not (a b : List UInt8) : text a ++ ⟨#[32, 110, 111, 116, 32]⟩ ++ text b = text (a ++ notL ++ b) := by
 rw [show (⟨#[32, 110, 111, 116, 32]⟩ : ByteArray) = text notL from rfl, text_append, text_append]
/-- a query as a value -/
def qv (a n : Int) : Value := .agg #[.int .u32 a, .int .u32 n]
theorem qtext_c (a n : Nat) (ha : a < 4294967296) (hn : n < 4294967296) (w : World) :
 Calls Tryz.prog 67 #[qv a n] w fun e w' => e = .returned (.string (text (textS a ++ notL ++ textS n))) ∧ Below w.heap.size w w' := by
 have hb0 := below1 w (.cells #[.int .u32 (a : Int), .int .u32 (n : Int)] 28)
 have hbox := IsC.new w 28 #[.int .u32 (a : Int), .int .u32 (n : Int)]
 have c0 := hbox.cell 0
 have c1 := hbox.cell 1
 have cA := text_c a ha
 have cB := text_c n hn
 have hl1 := text_len a
 have hl2 := text_len n
 unfold qv
 generalize hW : w.alloc (.cells #[.int .u32 (a : Int), .int .u32 (n : Int)] 28) = W at *
 obtain ⟨A, hA⟩ : ∃ A, textS a = A := ⟨_, rfl⟩
 obtain ⟨B, hB⟩ : ∃ B, textS n = B := ⟨_, rfl⟩
 rw [hA] at cA hl1
 rw [hB] at cB hl2
 rw [hA, hB]
 have hs1 := text_size A
 have hs2 := text_size B
 clear hA hB hbox
 have e9 := text_not A B
 have n1 : ¬ 9223372036854775807 < A.length + 5 := by omega
 have n2 : ¬ 9223372036854775807 < A.length + 5 + B.length := by omega
 replace cA := Hd cA
 replace cB := Hd cB
 replace hb0 := Hd hb0
 replace e9 := Hd e9
 replace hW := Hd hW
 go_enter Tryz.func67, Tryz.ntmps67
 go_wp2_with fail
 rw [hW.out]
 have d0 : W.drew.cell? ⟨w.heap.size, 0, none⟩ = some (.int .u32 (a : Int)) := c0
 have d1 : W.drew.cell? ⟨w.heap.size, 1, none⟩ = some (.int .u32 (n : Int)) := c1
 refine wp_region_held_at (S := fun w1 => w1.cell? ⟨w.heap.size, 0, none⟩ = some (.int .u32 (a : Int)) ∧ w1.cell? ⟨w.heap.size, 1, none⟩ = some (.int .u32 (n : Int))) 9 rfl (by kernel_rfl) (by go_keep) (fun hH => ?_)
 refine wpU 0 ?_ rfl ?_ ?_
 rotate_left
 ·intro u h; (try simp only [ls3]); go_simp; try with_reducible rfl
 try simp only [ls7, Act.put]
 refine wpU 1 ?_ rfl ?_ ?_
 rotate_left
 ·intro u h; (try simp only [ls3]); go_simp; try with_reducible rfl
 try simp only [ls7, Act.put]
 refine wpU 4 ?_ rfl ?_ ?_
 rotate_left
 ·intro u h; (try simp only [ls3]); go_simp; try with_reducible rfl
 try simp only [ls7, Act.put]
 refine wpU 5 ?_ rfl ?_ ?_
 rotate_left
 ·intro u h; (try simp only [ls3]); go_simp; try with_reducible rfl
 try simp only [ls7, Act.put]
 refine wpAnyH_ready (rs := [2]) (by decide +kernel) (by simp) ?_
 refine AllReadyH.cons rfl (fun K hK => ?_) AllReadyH.nil
 (try simp only [ls3])
 go_simp
 refine Calls.mono (cA.out.on _) ?_
 rintro e w4 ⟨rfl, hb4⟩
 have y0 := cell_up d0 hb4
 have y1 := cell_up d1 hb4
 (try go_simp)
 refine hK.out _ _ (by go_keep) (fun hH => ?_)
 clear hK K
 try simp only [ls7, Act.put]
 refine wpU 3 ?_ rfl ?_ ?_
 rotate_left
 ·intro u h; (try simp only [ls3]); go_simp; try with_reducible rfl
 try simp only [ls7, Act.put]
 refine wpAnyH_ready (rs := [6]) (by decide +kernel) (by simp) ?_
 refine AllReadyH.cons rfl (fun K hK => ?_) AllReadyH.nil
 (try simp only [ls3])
 go_simp
 refine Calls.mono (cB.out.on _) ?_
 rintro e w5 ⟨rfl, hb5⟩
 have z0 := cell_up y0 hb5
 have z1 := cell_up y1 hb5
 (try go_simp)
 refine hK.out _ _ (by go_keep) (fun hH => ?_)
 clear hK K
 try simp only [ls7, Act.put]
 refine wpU 7 ?_ rfl ?_ ?_
 rotate_left
 ·intro u h; (try simp only [ls3]); go_simp; try with_reducible rfl
 try simp only [ls7, Act.put]
 refine wpU 8 ?_ rfl ?_ ?_
 rotate_left
 ·intro u h; (try simp only [ls3]); go_simp; try with_reducible rfl
 try simp only [ls7, Act.put]
 refine wpAnyH_done (by decide +kernel) ?_ _
 have hfin := Hd (below_up (below_up hb0.out hb0.out.size (below_d hb4)) (Nat.le_trans hb0.out.size (below_d hb4).size) hb5)
 clear hb4 hb5
 go_wp2_with fail
 go_ret
 exact ⟨congrArg (fun x => Ending.returned (.string x)) e9.out, hfin.out⟩
/-- strings.Cut -/
theorem cutS_c (s sp : ByteArray) (hs : s.size < 4294967281) (w : World) (hg : GlobT w) :
 Calls Tryz.prog 47 #[.string s, .string sp] w fun e w' => e = .returned (.tuple #[.string (text (Lib.cut (byts s) (byts sp)).1), .string (text (Lib.cut (byts s) (byts sp)).2.1), .bool (Lib.cut (byts s) (byts sp)).2.2]) ∧ Below w.heap.size w w' := by
 obtain ⟨m, hc⟩ := hg.1.mx
 exact (Any.strings_Cut Tryz.lays145 s sp m w hs hc).mono fun e w' ⟨h1, n, h2⟩ => ⟨h1, by rw [h2]; exact below_drewN (Below.refl _ _)⟩
theorem parseS_lt (s : ByteArray) : (parseS s).1 < 4294967296 := by
 unfold parseS
 split
 ·exact setOf_lt _
 ·decide
theorem cut_le (l sp : List UInt8) : (Lib.cut l sp).1.length ≤ l.length ∧ (Lib.cut l sp).2.1.length ≤ l.length := by
 unfold Lib.cut
 split
 ·simp only [List.length_take, List.length_drop]
  omega
 ·exact ⟨Nat.le_refl _, Nat.zero_le _⟩
theorem qparse_c (s : ByteArray) (hs : s.size ≤ 100000) (w : World) (hg : GlobT w) :
 Calls Tryz.prog 75 #[.string s] w fun e w' => e = .returned (.tuple #[qv (parseQF (byts s)).1 (parseQF (byts s)).2.1, .int .i64 (parseQF (byts s)).2.2]) ∧ Below w.heap.size w w' := by
 have hb0 := below1 w (.cells #[.int .u32 0, .int .u32 0] 28)
 have hg0 := hg.on hb0
 have cc := cutS_c s ⟨#[32, 110, 111, 116, 32]⟩ (by omega) _ hg0
 rw [show byts ⟨#[32, 110, 111, 116, 32]⟩ = notL from rfl] at cc
 obtain ⟨R, hR⟩ : ∃ R, parseQF (byts s) = R := ⟨_, rfl⟩
 rw [hR]
 unfold parseQF at hR
 obtain ⟨hl1, hl2⟩ := cut_le (byts s) notL
 rw [byts_length] at hl1 hl2
 generalize Lib.cut (byts s) notL = C at *
 obtain ⟨L, r, b⟩ := C
 dsimp only at *
 have hls := text_size L
 have hrs := text_size r
 have cA := fun w' (h : GlobT w') => parse_c (text L) (by rw [hls]; omega) w' h.1
 have cB := fun w' (h : GlobT w') => parse_c (text r) (by rw [hrs]; omega) w' h.1
 have hA := parseS_lt (text L)
 have hB := parseS_lt (text r)
 obtain ⟨⟨a, e1⟩, ha⟩ : ∃ p, parseS (text L) = p := ⟨_, rfl⟩
 obtain ⟨⟨n, e2⟩, hn⟩ : ∃ p, parseS (text r) = p := ⟨_, rfl⟩
 rw [ha] at cA hA hR
 rw [hn] at cB hB hR
 dsimp only at *
 have cT := fun w' => qtext_c a n hA hB w'
 unfold qv at *
 have hT := bytes_eq (text (textS a ++ notL ++ textS n)) s
 rw [byts_text] at hT
 clear ha hn hl1 hl2
 generalize textS a ++ notL ++ textS n = T at *
 have hbox := IsC.new w 28 #[.int .u32 0, .int .u32 0]
 replace cc := Hd cc
 replace cA := Hd cA
 replace cB := Hd cB
 replace cT := Hd cT
 replace hb0 := Hd hb0
 replace hbox := Hd hbox
 have hb0s := hb0.out.size
 by_cases hE : T = byts s
 ·rw [if_pos hE] at hR
  rw [decide_eq_true hE] at hT
  subst hR
  clear hE
  go_enter Tryz.func75, Tryz.ntmps75
  go_wp2_with fail
  refine cc.out.mono ?_
  rintro e w1 ⟨rfl, hb1⟩
  have cA1 := Hd (cA.out w1 (hg0.on hb1))
  have hg1 := hg0.on hb1
  replace hb0 := Hd (below_up hb0.out hb0s hb1)
  replace hbox := Hd (isC_of hb1 hbox.out)
  clear cc hb1 cA hb0s
  have hb0s := hb0.out.size
  go_wp2_with fail
  refine cA1.out.mono ?_
  rintro e w2 ⟨rfl, hb2⟩
  have cB1 := Hd (cB.out w2 (hg1.on hb2))
  replace hb0 := Hd (below_up hb0.out hb0s hb2)
  replace hbox := Hd (isC_of hb2 hbox.out)
  clear cA1 hb2 cB hb0s
  have hb0s := hb0.out.size
  go_wp2_with fail
  refine cB1.out.mono ?_
  rintro e w3 ⟨rfl, hb3⟩
  replace hb0 := Hd (below_up hb0.out hb0s hb3)
  replace hbox := Hd (isC_of hb3 hbox.out)
  clear cB1 hb3 hb0s
  have hb0s := hb0.out.size
  replace hb0 := Hd (hb0.out.alloc hb0s (.cells #[.int .u32 (a : Int), .int .u32 (n : Int)] 28))
  replace hbox := Hd (hbox.out.alloc (.cells #[.int .u32 (a : Int), .int .u32 (n : Int)] 28))
  have hq := Hd (IsC.new w3 28 #[.int .u32 (a : Int), .int .u32 (n : Int)])
  clear hb0s
  have hb0s := hb0.out.size
  go_wp2_with fail
  refine (cT.out _).mono ?_
  rintro e w4 ⟨rfl, hb4⟩
  have hbf := Hd (below_up hb0.out hb0s hb4)
  have hbx := isC_of hb4 hbox.out
  have hqx := isC_of hb4 hq.out
  have k0 := hqx.cell 0
  have k1 := hqx.cell 1
  have f0 := hbx.f 0
  have f1 := hbx.f 1
  have x0 := hbx.cell 0
  have x1 := hbx.cell 1
  have hlt := hbx.lt
  have hs2 := (hbx.set 0 (.int .u32 (a : Int))).set 1 (.int .u32 (n : Int))
  have r0 : ((w4.setCell ⟨w.heap.size, 0, none⟩ (.int .u32 (a : Int))).setCell ⟨w.heap.size, 1, none⟩ (.int .u32 (n : Int))).cell? ⟨w.heap.size, 0, none⟩ = some (.int .u32 (a : Int)) := hs2.cell 0
  have r1 : ((w4.setCell ⟨w.heap.size, 0, none⟩ (.int .u32 (a : Int))).setCell ⟨w.heap.size, 1, none⟩ (.int .u32 (n : Int))).cell? ⟨w.heap.size, 1, none⟩ = some (.int .u32 (n : Int)) := hs2.cell 1
  have hfin := ((hbf.out.setCell (p := ⟨w.heap.size, 0, none⟩) (Nat.le_refl _) (.int .u32 (a : Int))).setCell (p := ⟨w.heap.size, 1, none⟩) (Nat.le_refl _) (.int .u32 (n : Int)))
  clear hb4 hb0 hbox hq hs2 hbx hqx
  replace hfin := Hd hfin
  replace r0 := Hd r0
  replace r1 := Hd r1
  go_wp2_with fail
  obtain ⟨wf, hwf⟩ : ∃ wf, (w4.setCell ⟨w.heap.size, 0, none⟩ (.int .u32 (a : Int))).setCell ⟨w.heap.size, 1, none⟩ (.int .u32 (n : Int)) = wf := ⟨_, rfl⟩
  have t0 := r0.out
  have t1 := r1.out
  have t2 := hfin.out
  rw [hwf] at t0 t1 t2 ⊢
  (try simp only [Exit.inBlock, Exit.then])
  refine bodyPost_ret (by simp [results, Tryz.results75, go_sem, t0, t1]; try rfl) rfl ?_
  exact ⟨rfl, t2⟩
 ·rw [if_neg hE] at hR
  rw [decide_eq_false hE] at hT
  subst hR
  clear hE
  go_enter Tryz.func75, Tryz.ntmps75
  go_wp2_with fail
  refine cc.out.mono ?_
  rintro e w1 ⟨rfl, hb1⟩
  have cA1 := Hd (cA.out w1 (hg0.on hb1))
  have hg1 := hg0.on hb1
  replace hb0 := Hd (below_up hb0.out hb0s hb1)
  replace hbox := Hd (isC_of hb1 hbox.out)
  clear cc hb1 cA hb0s
  have hb0s := hb0.out.size
  go_wp2_with fail
  refine cA1.out.mono ?_
  rintro e w2 ⟨rfl, hb2⟩
  have cB1 := Hd (cB.out w2 (hg1.on hb2))
  replace hb0 := Hd (below_up hb0.out hb0s hb2)
  replace hbox := Hd (isC_of hb2 hbox.out)
  clear cA1 hb2 cB hb0s
  have hb0s := hb0.out.size
  go_wp2_with fail
  refine cB1.out.mono ?_
  rintro e w3 ⟨rfl, hb3⟩
  replace hb0 := Hd (below_up hb0.out hb0s hb3)
  replace hbox := Hd (isC_of hb3 hbox.out)
  clear cB1 hb3 hb0s
  have hb0s := hb0.out.size
  replace hb0 := Hd (hb0.out.alloc hb0s (.cells #[.int .u32 (a : Int), .int .u32 (n : Int)] 28))
  replace hbox := Hd (hbox.out.alloc (.cells #[.int .u32 (a : Int), .int .u32 (n : Int)] 28))
  clear hb0s
  have hb0s := hb0.out.size
  go_wp2_with fail
  refine (cT.out _).mono ?_
  rintro e w4 ⟨rfl, hb4⟩
  have hbf := Hd (below_up hb0.out hb0s hb4)
  have hbx := isC_of hb4 hbox.out
  have f0 := hbx.f 0
  have f1 := hbx.f 1
  have t0 := hbx.cell 0
  have t1 := hbx.cell 1
  have hlt := hbx.lt
  clear hb4 hb0 hbox hbx
  go_wp2_with fail
  (try simp only [Exit.inBlock, Exit.then])
  refine bodyPost_ret (by simp [results, Tryz.results75, go_sem, t0, t1]; try rfl) rfl ?_
  exact ⟨rfl, (hbf.out.setCell (p := ⟨w.heap.size, 0, none⟩) (Nat.le_refl _) (.int .u32 0)).setCell (p := ⟨w.heap.size, 1, none⟩) (Nat.le_refl _) (.int .u32 0)⟩
end Go.Proofs.YtjjgbillihedgaaGreatDoor
