/- parts of the proof, merged: TlM, TlU, TlR, TlT, TlV -/
import Derived.Deep.RegionLaw
import Derived.Lib.JoinLaws
import Derived.Laws.OwnMore
import Derived.Test.YtjjgbillihedgaaGreatDoorQy20
set_option linter.unusedSimpArgs false
set_option linter.unusedVariables false
set_option maxHeartbeats 32000000
set_option maxRecDepth 100000
namespace Go.Proofs.YtjjgbillihedgaaGreatDoor
open Go.RowKit
open Rf
open Sg
open Wide
open Tl
theorem asOp_in {w : World} {K E C : Int} {l : List PartD} {t : Value} (h : InS w t l) : OpIn w (asOpF K E C l) (asOpS K t) nilV := by
 unfold asOpF asOpS nilV
 split
 ·exact ⟨h, InS.nil _ _ _⟩
 ·exact ⟨InS.nil _ _ _, InS.nil _ _ _⟩
theorem is8_c (o : OpD) (hs : OpSmall o) (h8 : o.K = 8) (s t : Value) (w : World) (hin : OpIn w o s t) :
 Calls Tryz.prog 9 #[opv o s t] w fun e w' => e = .returned (.bool (isOpF o)) ∧ Below w.heap.size w w' := by
 obtain ⟨h1, h2⟩ := id hin
 have hb0 := below1 w (.cells (opc o s t) 32)
 have hbox := IsC.new w 32 (opc o s t)
 have cN := isNamed_c o hs.cP s t _ (hin.below hb0)
 have cP := fun w' (h : InS w' s o.P) => isPartsS_c o.P hs.P hs.L s w' h
 have hsm := asOp_small hs
 have hkd := asOp_kind o.cK o.cE o.cC o.cP
 have hin2 := (asOp_in (K := o.cK) (E := o.cE) (C := o.cC) h2).below hb0
 obtain ⟨a, c, rfl, _⟩ := id h1
 obtain ⟨b, d, rfl, _⟩ := id h2
 have cA := fun w' => asOp_c o.cK o.cE o.cC o.cP b o.cP.length d w'
 have c1 := fun w' (h : OpIn w' (asOpF o.cK o.cE o.cC o.cP) (asOpS o.cK (.slice b o.cP.length d)) nilV) => is1_c _ hsm hkd _ _ w' h
 obtain ⟨R, hR⟩ : ∃ R, isOpF o = R := ⟨_, rfl⟩
 rw [hR]
 unfold isOpF at hR
 rw [if_pos h8] at hR
 have hP1 := h1.below hb0
 generalize is1F (asOpF o.cK o.cE o.cC o.cP) = f at *
 generalize asOpF o.cK o.cE o.cC o.cP = x at *
 generalize asOpS o.cK (.slice b o.cP.length d) = xs at *
 generalize isCmd o.cK = kc at *
 unfold nilV at *
 obtain ⟨a1, e1, rfl, _⟩ := id hin2.1
 clear hin hs h1 h2 hsm hkd
 obtain ⟨K, E, C, P, A, N, cK, cE', cC, cP', U, B⟩ := o
 obtain ⟨xK, xE, xC, xP, xA, xN, xcK, xcE', xcC, xcP', xU, xB⟩ := x
 dsimp only at *
 subst h8
 unfold opc at *
 unfold opv at *
 unfold cmdv at *
 dsimp only at *
 generalize isNamedF _ = n1 at *
 generalize isPartsF _ = n2 at *
 replace cN := Hd cN
 replace cP := Hd cP
 replace cA := Hd cA
 replace c1 := Hd c1
 replace hR := Hd hR
 replace hb0 := Hd hb0
 replace hbox := Hd hbox
 replace hP1 := Hd hP1
 replace hin2 := Hd hin2
 have hb0s := hb0.out.size
 cases n1 with
 | false =>
   have hr := hR.out
   simp at hr
   subst hr
   clear hR
   go_enter Tryz.func9, Tryz.ntmps9
   go_wp2_with fail
   refine cN.out.mono ?_
   rintro e w1 ⟨rfl, hb1⟩
   have hb2 := Hd (below_up hb0.out hb0s hb1)
   clear hb1 hbox cN hb0
   go_wp2_with fail
   go_ret
   exact ⟨rfl, hb2.out⟩
 | true =>
   cases n2 with
   | false =>
     have hr := hR.out
     simp at hr
     subst hr
     clear hR
     go_enter Tryz.func9, Tryz.ntmps9
     go_wp2_with fail
     refine cN.out.mono ?_
     rintro e w1 ⟨rfl, hb1⟩
     have hbx := isC_of hb1 hbox.out
     have k3 := hbx.cell 3
     have hb2 := below_up hb0.out hb0s hb1
     have hb2s := hb2.size
     have cP1 := cP.out w1 (hP1.out.below hb1)
     clear hb1 hbox cN hb0 cP
     replace hb2 := Hd hb2
     replace hbx := Hd hbx
     replace cP1 := Hd cP1
     go_wp2_with fail
     refine cP1.out.mono ?_
     rintro e w2 ⟨rfl, hb3⟩
     have hby := isC_of hb3 hbx.out
     have hb4 := Hd (below_up hb2.out hb2s hb3)
     clear hb3 hbx cP1 hb2 hby
     go_wp2_with fail
     go_ret
     exact ⟨rfl, hb4.out⟩
   | true =>
     have hr := hR.out
     simp only [Bool.true_and] at hr
     clear hR
     replace hr := Hd hr
     go_enter Tryz.func9, Tryz.ntmps9
     go_wp2_with fail
     refine cN.out.mono ?_
     rintro e w1 ⟨rfl, hb1⟩
     have hbx := isC_of hb1 hbox.out
     have k3 := hbx.cell 3
     have hb2 := below_up hb0.out hb0s hb1
     have hb2s := hb2.size
     have cP1 := cP.out w1 (hP1.out.below hb1)
     replace hin2 := Hd (hin2.out.below hb1)
     clear hb1 hbox cN hb0 cP
     replace hb2 := Hd hb2
     replace hbx := Hd hbx
     replace cP1 := Hd cP1
     go_wp2_with fail
     refine cP1.out.mono ?_
     rintro e w2 ⟨rfl, hb3⟩
     have hby := isC_of hb3 hbx.out
     have j0 := hby.cell 0
     have j6 := hby.cell 6
     have j7 := hby.cell 7
     have j8 := hby.cell 8
     have j9 := hby.cell 9
     have hb4 := Hd (below_up hb2.out hb2s hb3)
     have hb4s := hb4.out.size
     replace hin2 := Hd (hin2.out.below hb3)
     clear hb3 hbx cP1 hb2 hby k3
     go_wp2_with fail
     refine (cA.out _).mono ?_
     rintro e w3 ⟨rfl, hb5⟩
     replace hin2 := Hd ((hin2.out.below hb5).below (below1 w3 (.cells #[.int .i64 xK, .int .u64 xE, .int .i64 xC, .slice a1 xP.length e1, .int .u32 xA, .int .u32 xN, .int .i64 xcK, .int .u64 xcE', .int .i64 xcC, .slice none 0 0, .int .i64 xU, .string xB] 32)))
     have hb6 := below_up hb4.out hb4s hb5
     have hb7 := Hd (hb6.alloc hb6.size (.cells #[.int .i64 xK, .int .u64 xE, .int .i64 xC, .slice a1 xP.length e1, .int .u32 xA, .int .u32 xN, .int .i64 xcK, .int .u64 xcE', .int .i64 xcC, .slice none 0 0, .int .i64 xU, .string xB] 32))
     have hb7s := hb7.out.size
     have c2 := c1.out _ hin2.out
     clear hb5 hb6 cA hb4 j0 j6 j7 j8 j9 c1 hin2
     replace c2 := Hd c2
     cases kc with
     | false =>
       have hr' := hr.out
       simp at hr'
       subst hr'
       clear hr c2
       go_wp2_with fail
       go_ret
       exact ⟨rfl, hb7.out⟩
     | true =>
       have hr' := hr.out
       simp at hr'
       subst hr'
       clear hr
       go_wp2_with fail
       refine c2.out.mono ?_
       rintro e w4 ⟨rfl, hb8⟩
       have hb9 := Hd (below_up hb7.out hb7s hb8)
       clear hb8 c2 hb7
       go_wp2_with fail
       go_ret
       exact ⟨rfl, hb9.out⟩
/-- whether an op can be told -/
theorem isOp_c (o : OpD) (hs : OpSmall o) (s t : Value) (w : World) (hin : OpIn w o s t) :
 Calls Tryz.prog 9 #[opv o s t] w fun e w' => e = .returned (.bool (isOpF o)) ∧ Below w.heap.size w w' := by
 by_cases h8 : o.K = 8
 ·exact is8_c o hs h8 s t w hin
 ·rw [show isOpF o = is1F o from if_neg h8]
  exact is1_c o hs h8 s t w hin
theorem addr_add (g o j : Nat) : (⟨g, o, none⟩ : Addr).add j = ⟨g, o + j, none⟩ := by unfold Addr.add; split <;> simp_all
section
variable {P : Program} {ops : Array Oper} {Q : Exit → Act → World → Prop} {md : Region.Mode}
/-- under a stronger condition -/
theorem wpAnyH_imp {S S1 : World → Prop} (hi : ∀ w, S1 w → S w) : ∀ (fuel : Nat) (listed : Array Bool) (a : Act) (w : World), wpAnyH P md ops Q S1 fuel listed a w → wpAnyH P md ops Q S fuel listed a w
 | 0, _, _, _, h => h
 | fuel + 1, _, _, _, h => ⟨h.1, fun i hm => wpOp_mono (fun a' w' h' => ⟨hi _ h'.1, wpAnyH_imp hi fuel _ a' w' h'.2⟩) (h.2 i hm)⟩
/-- the condition gains a limb -/
theorem wpAnyH_more {S : World → Prop} {N : World → Prop} {fuel : Nat} {listed : Array Bool} {a : Act} {w : World} (hN : N w) (hS : S w) (h : N w ∧ S w → wpAnyH P md ops Q (fun w => N w ∧ S w) fuel listed a w) : wpAnyH P md ops Q S fuel listed a w :=
 wpAnyH_imp (fun _ h => h.2) _ _ _ _ (h ⟨hN, hS⟩)
/-- an append of whatever source onto a row of the call's own, in a region that draws -/
theorem step_append_own_src {o : Oper} {a : Act} {w : World} {K : Act → World → Prop} (s x : Operand) (t tx : TypeId)
 (ho : o.op = .call { callee := .builtin .append, args := #[s, x], argTypes := #[t, tx] })
 (base : Nat) (e : TypeId) (i : TypeInfo) (z : Value) (size bytes : Nat) (ht : P.underlying t = some (.slice e)) (hi : P.info? e = some i) (hz : i.zero = some z)
 (hsize : i.size = size) (hby : i.bytes = bytes) (hzs : z.cells.size = size)
 {v : Value} {n : Nat} {xs : List Value} (hv : a.eval s = v) (hown : w.ownsRow base e size v n xs)
 {xv : Value} {m : Nat} {news : List Value} (hx : a.eval x = xv) (hs : Src P size tx xv m news w) (h63 : n + m ≤ maxLen) (hbytes : (n + m) * bytes ≤ 140737488355328) (hbase : base ≤ w.heap.size)
 (hK : ∀ b' c' w', w'.ownsRow base e size (.slice b' (n + m) c') (n + m) (xs ++ news) → w.grownBy w' v.ownBlock → K (a.put o.dst (.slice b' (n + m) c')) w') : Oper.wp P o a w K Q := by
 obtain ⟨v', w', hrun, r1, r2, b', c', rfl⟩ := run_append_own_src (P := P) w base t tx o.type e i z size bytes ht hi hz hsize hby hzs v n xs hown xv m news hs h63 hbytes hbase
 unfold Oper.wp
 simp [execOp, ho, resolve, invoke, builtin, hv, hx, hrun, Result.andThen]
 exact hK _ _ _ r1 r2
/-- an append onto a row that has no room (whatever its beginning) -/
theorem run_append_full_src (w : World) (t tx ty e : TypeId) (i : TypeInfo) (z : Value) (size bytes : Nat) (ht : P.underlying t = some (.slice e)) (hi : P.info? e = some i) (hz : i.zero = some z)
 (hsize : i.size = size) (hby : i.bytes = bytes) (hzs : z.cells.size = size) (g o n : Nat) (xs : List Value) (hxl : xs.length = n * size) (hc : ∀ j u, xs[j]? = some u → w.cell? ⟨g, o + j, none⟩ = some u)
 (x : Value) (m : Nat) (news : List Value) (hs : Src P size tx x m news w) (hm : 0 < m) (h63 : n + m ≤ maxLen) (hbytes : (n + m) * bytes ≤ 140737488355328) (base : Nat) (hbase : base ≤ w.heap.size) :
 ∃ b' c' w', (Builtin.append_ #[t, tx] ty #[.slice (some ⟨g, o, none⟩) n n, x]).run P w = .ok (.slice b' (n + m) c') w' ∧ w'.ownsRow base e size (.slice b' (n + m) c') (n + m) (xs ++ news) ∧ Below w.heap.size w w' := by
 subst hsize
 subst hby
 have h63' : ((n + m : Nat) : Int) ≤ 9223372036854775807 := by simp only [maxLen] at h63; omega
 have hlen : (xs ++ news).length = (n + m) * i.size := by rw [List.length_append, hxl, hs.newsLen, Nat.add_mul]
 have hold : (Builtin.firstCells i.size n (.slice (some ⟨g, o, none⟩) n n)).run P w.drew = .ok xs.toArray w.drew :=
  run_firstCells_some w.drew i.size n ⟨g, o, none⟩ n n xs hxl (by intro j u hu; rw [addr_add]; exact hc j u hu)
 have hrun := run_append_grow_src (P := P) w t tx ty e i z ht hi hz (some ⟨g, o, none⟩) n n xs hold x m news hs (by omega) h63' (growslice_fits (by omega) hbytes)
 have hge := grownCap_ge w (n + m) n e
 refine ⟨_, _, _, hrun, ⟨hlen, .inr ⟨w.heap.size, _, _, rfl, hbase, heap_alloc_new w.drew _, hge, grownCap_le_maxLen w (n + m) n e h63, ?_, ?_⟩⟩, ⟨rfl, rfl, rfl, by simp, fun k hk => Below.heap_alloc w.drew _ k hk⟩⟩
 ·rw [Array.size_append, List.size_toArray, hlen, size_zeroCells, hzs, ← Nat.add_mul]
  congr 1
  omega
 ·rw [Array.toList_append, ← hlen]
  exact List.take_left
theorem step_append_full_src {o : Oper} {a : Act} {w : World} {K : Act → World → Prop} (s x : Operand) (t tx : TypeId)
 (ho : o.op = .call { callee := .builtin .append, args := #[s, x], argTypes := #[t, tx] })
 (e : TypeId) (i : TypeInfo) (z : Value) (size bytes : Nat) (ht : P.underlying t = some (.slice e)) (hi : P.info? e = some i) (hz : i.zero = some z)
 (hsize : i.size = size) (hby : i.bytes = bytes) (hzs : z.cells.size = size) (g b n : Nat) (xs : List Value) (hxl : xs.length = n * size) (hc : ∀ j u, xs[j]? = some u → w.cell? ⟨g, b + j, none⟩ = some u)
 (hv : a.eval s = .slice (some ⟨g, b, none⟩) n n)
 {xv : Value} {m : Nat} {news : List Value} (hx : a.eval x = xv) (hs : Src P size tx xv m news w) (hm : 0 < m) (h63 : n + m ≤ maxLen) (hbytes : (n + m) * bytes ≤ 140737488355328) (base : Nat) (hbase : base ≤ w.heap.size)
 (hK : ∀ b' c' w', w'.ownsRow base e size (.slice b' (n + m) c') (n + m) (xs ++ news) → Below w.heap.size w w' → K (a.put o.dst (.slice b' (n + m) c')) w') : Oper.wp P o a w K Q := by
 obtain ⟨b', c', w', hrun, r1, r2⟩ := run_append_full_src (P := P) w t tx o.type e i z size bytes ht hi hz hsize hby hzs g b n xs hxl hc xv m news hs hm h63 hbytes base hbase
 unfold Oper.wp
 simp [execOp, ho, resolve, invoke, builtin, hv, hx, hrun, Result.andThen]
 exact hK _ _ _ r1 r2
theorem wpList_append_full_src {w : World} {rest : List Oper} {o : Oper} {a : Act} (hgd : o.guard = none) (s x : Operand) (t tx : TypeId)
 (ho : o.op = .call { callee := .builtin .append, args := #[s, x], argTypes := #[t, tx] })
 (e : TypeId) (i : TypeInfo) (z : Value) (size bytes : Nat) (ht : P.underlying t = some (.slice e)) (hi : P.info? e = some i) (hz : i.zero = some z)
 (hsize : i.size = size) (hby : i.bytes = bytes) (hzs : z.cells.size = size) (g b n : Nat) (xs : List Value) (hxl : xs.length = n * size) (hc : ∀ j u, xs[j]? = some u → w.cell? ⟨g, b + j, none⟩ = some u)
 (hv : a.eval s = .slice (some ⟨g, b, none⟩) n n)
 {xv : Value} {m : Nat} {news : List Value} (hx : a.eval x = xv) (hs : Src P size tx xv m news w) (hm : 0 < m) (h63 : n + m ≤ maxLen) (hbytes : (n + m) * bytes ≤ 140737488355328) (base : Nat) (hbase : base ≤ w.heap.size)
 (hK : ∀ b' c' w', w'.ownsRow base e size (.slice b' (n + m) c') (n + m) (xs ++ news) → Below w.heap.size w w' → wpList P ops Q rest (a.put o.dst (.slice b' (n + m) c')) w') : wpList P ops Q (o :: rest) a w := by
 refine wpList_plain hgd fun K hK' => ?_
 exact step_append_full_src s x t tx ho e i z size bytes ht hi hz hsize hby hzs g b n xs hxl hc hv hx hs hm h63 hbytes base hbase (fun b' c' w' r1 r2 => hK' _ _ (hK b' c' w' r1 r2))
end
/-- a source of texts -/
theorem src_in {w : World} {a : Option Addr} {c : Nat} {l : List (List UInt8)} (h : InT w a c l) : Src Tryz.prog 1 76 (.slice a l.length c) l.length (sv l) w := by
 rcases h.2 with rfl | ⟨g, o, rfl, hg, hc⟩
 ·cases a with
  | none => exact Src.ofNil _ Tryz.underlying76 c
  | some a => exact Src.ofSlice _ Tryz.underlying76 a 0 c (sv []) rfl (fun j u hu => by simp [sv] at hu) (sv_one [])
 ·refine Src.ofSlice _ Tryz.underlying76 ⟨g, o, none⟩ l.length c (sv l) (by rw [sv_length, Nat.mul_one]) (fun j u hu => ?_) (sv_one l)
  have hj : j < l.length := by
   rcases Nat.lt_or_ge j l.length with h' | h'
   ·exact h'
   ·rw [List.getElem?_eq_none (by rw [sv_length]; exact h')] at hu; cases hu
  rw [sv_get l j hj] at hu
  cases hu
  rw [addr_add]
  exact hc j hj
end Go.Proofs.YtjjgbillihedgaaGreatDoor
namespace Go.Proofs.YtjjgbillihedgaaGreatDoor
open Go.RowKit
open Rf
open Sg
open Wide
namespace Tl
theorem byts_at (s : ByteArray) (j : Nat) (h : j < s.size) : (byts s)[j]? = some s[j] := by
 unfold byts
 rw [List.getElem?_eq_getElem (by simpa using h)]
 rfl
theorem take_at (s : ByteArray) (j : Nat) (h : j < s.size) : (byts s).take (j + 1) = (byts s).take j ++ [s[j]] := take_snoc s j h
theorem drop_at (s : ByteArray) (j : Nat) (h : j < s.size) : (byts s).drop j = s[j] :: (byts s).drop (j + 1) := by
 unfold byts
 rw [List.drop_eq_getElem_cons (by simpa using h)]
 rfl
theorem drop_end (s : ByteArray) : (byts s).drop s.size = [] := List.drop_eq_nil_of_le (by rw [byts_length]; exact Nat.le_refl _)
theorem u8_eq (a b : UInt8) : ((a.toNat : Int) == (b.toNat : Int)) = decide (a = b) := by
 rw [Bool.eq_iff_iff, beq_iff_eq, decide_eq_true_iff]
 constructor
 ·intro h
  exact UInt8.toNat_inj.1 (by omega)
 ·rintro rfl; rfl
/-- what a kind names, by letters -/
def namesF (k : Int) : List UInt8 := if k = 1 then [112] else if k = 2 then [101] else if k = 3 then [101, 112] else if k = 5 then [101, 112] else if k = 4 then [101, 99] else if k = 6 then [101, 99] else if k = 7 then [113] else if k = 8 then [100] else if k = 9 then [117] else if k = 10 then [98] else []
end Tl
open Tl
theorem names_c (k : Int) : Still 28 #[.int .i64 k] (.string (text (namesF k))) := fun w => by
 unfold namesF
 by_cases h1 : k = 1
 ·subst h1
  go_enter Tryz.func28, Tryz.ntmps28
  go_wp2_with fail
  go_ret
  exact ⟨rfl, rfl⟩
 by_cases h2 : k = 2
 ·subst h2
  go_enter Tryz.func28, Tryz.ntmps28
  go_wp2_with fail
  go_ret
  exact ⟨rfl, rfl⟩
 by_cases h3 : k = 3
 ·subst h3
  go_enter Tryz.func28, Tryz.ntmps28
  go_wp2_with fail
  go_ret
  exact ⟨rfl, rfl⟩
 by_cases h5 : k = 5
 ·subst h5
  go_enter Tryz.func28, Tryz.ntmps28
  go_wp2_with fail
  go_ret
  exact ⟨rfl, rfl⟩
 by_cases h4 : k = 4
 ·subst h4
  go_enter Tryz.func28, Tryz.ntmps28
  go_wp2_with fail
  go_ret
  exact ⟨rfl, rfl⟩
 by_cases h6 : k = 6
 ·subst h6
  go_enter Tryz.func28, Tryz.ntmps28
  go_wp2_with fail
  go_ret
  exact ⟨rfl, rfl⟩
 by_cases h7 : k = 7
 ·subst h7
  go_enter Tryz.func28, Tryz.ntmps28
  go_wp2_with fail
  go_ret
  exact ⟨rfl, rfl⟩
 by_cases h8 : k = 8
 ·subst h8
  go_enter Tryz.func28, Tryz.ntmps28
  go_wp2_with fail
  go_ret
  exact ⟨rfl, rfl⟩
 by_cases h9 : k = 9
 ·subst h9
  go_enter Tryz.func28, Tryz.ntmps28
  go_wp2_with fail
  go_ret
  exact ⟨rfl, rfl⟩
 by_cases h10 : k = 10
 ·subst h10
  go_enter Tryz.func28, Tryz.ntmps28
  go_wp2_with fail
  go_ret
  exact ⟨rfl, rfl⟩
 rw [if_neg h1, if_neg h2, if_neg h3, if_neg h5, if_neg h4, if_neg h6, if_neg h7, if_neg h8, if_neg h9, if_neg h10]
 have e1 : (k == 1) = false := beq_eq_false_iff_ne.2 h1
 have e2 : (k == 2) = false := beq_eq_false_iff_ne.2 h2
 have e3 : (k == 3) = false := beq_eq_false_iff_ne.2 h3
 have e5 : (k == 5) = false := beq_eq_false_iff_ne.2 h5
 have e4 : (k == 4) = false := beq_eq_false_iff_ne.2 h4
 have e6 : (k == 6) = false := beq_eq_false_iff_ne.2 h6
 have e7 : (k == 7) = false := beq_eq_false_iff_ne.2 h7
 have e8 : (k == 8) = false := beq_eq_false_iff_ne.2 h8
 have e9 : (k == 9) = false := beq_eq_false_iff_ne.2 h9
 have e10 : (k == 10) = false := beq_eq_false_iff_ne.2 h10
 clear h1 h2 h3 h5 h4 h6 h7 h8 h9 h10
 go_enter Tryz.func28, Tryz.ntmps28
 go_wp2_with fail
 go_ret
 exact ⟨rfl, rfl⟩
theorem rhas_c (s : ByteArray) (hs : s.size ≤ 1000) (b : UInt8) : Still 29 #[.string s, .int .u8 (b.toNat : Int)] (.bool (decide (b ∈ byts s))) := fun w => by
 obtain ⟨R, hR⟩ : ∃ R, decide (b ∈ byts s) = R := ⟨_, rfl⟩
 rw [hR]
 replace hR := Hd hR
 go_enter Tryz.func29, Tryz.ntmps29
 go_wp2_with fail
 go_loop [5] (fun i => ∃ j : Nat, j ≤ s.size ∧ i = .int .i64 j ∧ b ∉ (byts s).take j) (fun i => s.size - (intOf i).toNat)
 case atStart => exact ⟨0, Nat.zero_le _, rfl, by simp⟩
 case round =>
  obtain ⟨j, hj, rfl, hno⟩ := hrel
  by_cases hlt : j < s.size
  ·have hltI : (j : Int) < (s.size : Int) := by omega
   have hst := take_at s j hlt
   have hmem : s[j] ∈ byts s := by
    have := byts_at s j hlt
    exact List.mem_of_getElem? this
   have heq := u8_eq s[j] b
   by_cases hx : s[j] = b
   ·rw [decide_eq_true hx] at heq
    have hr := hR.out
    rw [decide_eq_true (by rw [← hx]; exact hmem)] at hr
    subst hr
    clear hR hst hmem hno hx
    go_wp2_with fail
    go_ret
    exact ⟨rfl, rfl⟩
   ·rw [decide_eq_false hx] at heq
    have hno' : b ∉ (byts s).take (j + 1) := by
     rw [hst, List.mem_append, List.mem_singleton]
     rintro (h | h)
     ·exact hno h
     ·exact hx h.symm
    clear hst hmem hno hx
    replace hno' := Hd hno'
    go_wp2_with fail
    go_round
    case rel => exact ⟨j + 1, by omega, by go_num, hno'.out⟩
    case measure => simp [intOf]; omega
  ·obtain rfl : j = s.size := by omega
   rw [take_all] at hno
   have hr := hR.out
   rw [decide_eq_false hno] at hr
   subst hr
   clear hR hno
   go_wp2_with fail
   go_ret
   exact ⟨rfl, rfl⟩
theorem refEnt_c (e : Int) (h0 : 0 ≤ e) (h1 : e ≤ 18446744073709551615) : Still 30 #[.int .u64 e] (.bool (decide (0 < e % 4294967296) && decide (0 < e / 4294967296))) := fun w => by
 by_cases h : 0 < e % 4294967296
 ·rw [decide_eq_true h, Bool.true_and]
  go_enter Tryz.func30, Tryz.ntmps30
  go_wp2_with fail
  go_ret
  exact ⟨rfl, rfl⟩
 ·rw [decide_eq_false h, Bool.false_and]
  go_enter Tryz.func30, Tryz.ntmps30
  go_wp2_with fail
  go_ret
  exact ⟨rfl, rfl⟩
namespace Tl
/-- a hex digit's number; -1: it is none -/
def dgtF (c : UInt8) : Int := if 48 ≤ c.toNat ∧ c.toNat ≤ 57 then (c.toNat : Int) - 48 else if 97 ≤ c.toNat ∧ c.toNat ≤ 102 then (c.toNat : Int) - 97 + 10 else -1
theorem dgtF_bd (c : UInt8) : -1 ≤ dgtF c ∧ dgtF c ≤ 15 := by unfold dgtF; split <;> (try split) <;> omega
end Tl
theorem digit_c (c : UInt8) : Still 44 #[.int .u8 (c.toNat : Int)] (.int .i64 (dgtF c)) := fun w => by
 have hc := c.toNat_lt
 unfold dgtF
 generalize c.toNat = n at *
 by_cases h1 : 48 ≤ n
 ·have h1I : (48 : Int) ≤ (n : Int) := by omega
  by_cases h2 : n ≤ 57
  ·have h2I : (n : Int) ≤ 57 := by omega
   rw [if_pos ⟨h1, h2⟩]
   go_enter Tryz.func44, Tryz.ntmps44
   go_wp2_with fail
   go_ret
   exact ⟨rfl, rfl⟩
  ·have h2I : ¬ (n : Int) ≤ 57 := by omega
   rw [if_neg (by omega)]
   by_cases h3 : 97 ≤ n
   ·have h3I : (97 : Int) ≤ (n : Int) := by omega
    by_cases h4 : n ≤ 102
    ·have h4I : (n : Int) ≤ 102 := by omega
     rw [if_pos ⟨h3, h4⟩]
     go_enter Tryz.func44, Tryz.ntmps44
     go_wp2_with fail
     go_ret
     exact ⟨rfl, rfl⟩
    ·have h4I : ¬ (n : Int) ≤ 102 := by omega
     rw [if_neg (by omega)]
     go_enter Tryz.func44, Tryz.ntmps44
     go_wp2_with fail
     go_ret
     exact ⟨rfl, rfl⟩
   ·have h3I : ¬ (97 : Int) ≤ (n : Int) := by omega
    rw [if_neg (by omega)]
    go_enter Tryz.func44, Tryz.ntmps44
    go_wp2_with fail
    go_ret
    exact ⟨rfl, rfl⟩
 ·have h1I : ¬ (48 : Int) ≤ (n : Int) := by omega
  have h3I : ¬ (97 : Int) ≤ (n : Int) := by omega
  rw [if_neg (by omega), if_neg (by omega)]
  go_enter Tryz.func44, Tryz.ntmps44
  go_wp2_with fail
  go_ret
  exact ⟨rfl, rfl⟩
namespace Tl
/-- ahead of the first blank, and behind it -/
def bcut : List UInt8 → List UInt8 × List UInt8
 | [] => ([], [])
 | c :: r => if c = 32 then ([], r) else (c :: (bcut r).1, (bcut r).2)
theorem bcut_app (x : List UInt8) (h : (32 : UInt8) ∉ x) (l : List UInt8) : bcut (x ++ l) = (x ++ (bcut l).1, (bcut l).2) := by
 induction x with
 | nil => rfl
 | cons c r ih =>
   simp only [List.mem_cons, not_or] at h
   rw [List.cons_append, bcut, if_neg (fun e => h.1 e.symm), ih h.2]
   rfl
theorem bcut_hit (s : ByteArray) (j : Nat) (h : j < s.size) (hno : (32 : UInt8) ∉ (byts s).take j) (hc : s[j] = 32) : bcut (byts s) = ((byts s).take j, (byts s).drop (j + 1)) := by
 conv => lhs; rw [← List.take_append_drop j (byts s)]
 rw [bcut_app _ hno, drop_at s j h, hc, bcut, if_pos rfl, List.append_nil]
theorem bcut_miss (l : List UInt8) (hno : (32 : UInt8) ∉ l) : bcut l = (l, []) := by
 have := bcut_app l hno []
 rw [List.append_nil] at this
 rw [this]
 simp [bcut]
theorem ext_take (s : ByteArray) (j : Nat) : s.extract 0 j = text ((byts s).take j) := extract_text s j
theorem ext_drop (s : ByteArray) (j : Nat) : s.extract j s.size = text ((byts s).drop j) := by
 apply ByteArray.ext
 apply Array.ext'
 simp [text, byts]
 exact List.take_of_length_le (by rw [List.length_drop, Array.length_toList]; exact Nat.le_refl _)
end Tl
theorem bcut_c (s : ByteArray) (hs : s.size ≤ 1000000) (w : World) : Calls Tryz.prog 77 #[.string s] w fun e w' => e = .returned (.tuple #[.string (text (bcut (byts s)).1), .string (text (bcut (byts s)).2)]) ∧ Below w.heap.size w w' := by
 obtain ⟨R, hR⟩ : ∃ R, bcut (byts s) = R := ⟨_, rfl⟩
 rw [hR]
 obtain ⟨R1, R2⟩ := R
 dsimp only
 replace hR := Hd hR
 go_enter Tryz.func77, Tryz.ntmps77
 go_wp2_with fail
 go_loop [4] (fun i => ∃ j : Nat, j ≤ s.size ∧ i = .int .i64 j ∧ (32 : UInt8) ∉ (byts s).take j) (fun i => s.size - (intOf i).toNat)
 case atStart => exact ⟨0, Nat.zero_le _, rfl, by simp⟩
 case round =>
  obtain ⟨j, hj, rfl, hno⟩ := hrel
  by_cases hlt : j < s.size
  ·have hltI : (j : Int) < (s.size : Int) := by omega
   have hst := take_at s j hlt
   have heq := u8_eq s[j] 32
   have hhit := bcut_hit s j hlt hno
   rw [show (((32 : UInt8).toNat : Nat) : Int) = 32 from rfl] at heq
   by_cases hx : s[j] = 32
   ·rw [decide_eq_true hx] at heq
    have hr := hR.out
    rw [hhit hx] at hr
    obtain ⟨r1, r2⟩ := Prod.mk.inj hr
    have e1 := Hd (show text R1 = s.extract 0 j by rw [← r1, ext_take])
    have e2 := Hd (show text R2 = s.extract (j + 1) s.size by rw [← r2, ext_drop])
    clear hr r1 r2
    have w1 : IntKind.i64.wrap ((j : Int) + 1) = (j : Int) + 1 := IntWalk.i64_in _ (by omega)
    have q2 : ((j : Int) + 1).toNat = j + 1 := by omega
    clear hR hst hno hx hhit
    go_wp2_with fail
    go_quiet (fail)
    go_wp2_with fail
    (try simp only [Exit.inBlock, Exit.then])
    refine bodyPost_ret (by simp [results, Tryz.results77, go_sem]; try rfl) rfl ?_
    exact ⟨by rw [e1.out, e2.out], below_drewN (Below.refl _ _)⟩
   ·rw [decide_eq_false hx] at heq
    have hno' : (32 : UInt8) ∉ (byts s).take (j + 1) := by
     rw [hst, List.mem_append, List.mem_singleton]
     rintro (h | h)
     ·exact hno h
     ·exact hx h.symm
    clear hst hno hx hhit
    replace hno' := Hd hno'
    go_wp2_with fail
    go_round
    case rel => exact ⟨j + 1, by omega, by go_num, hno'.out⟩
    case measure => simp [intOf]; omega
  ·obtain rfl : j = s.size := by omega
   rw [take_all] at hno
   have hr := hR.out
   rw [bcut_miss _ hno] at hr
   obtain ⟨r1, r2⟩ := Prod.mk.inj hr
   have e1 := Hd (show text R1 = s by rw [← r1, text_byts])
   have e2 := Hd (show text R2 = ⟨#[]⟩ by rw [← r2]; rfl)
   clear hR hno hr r1 r2
   go_wp2_with fail
   (try simp only [Exit.inBlock, Exit.then])
   refine bodyPost_ret (by simp [results, Tryz.results77, go_sem]; try rfl) rfl ?_
   exact ⟨by rw [e1.out, e2.out], Below.refl _ _⟩
open Tl
theorem number_c (s : ByteArray) (hs : s.size ≤ 100000) (w : World) (hg : GlobT w) :
 Calls Tryz.prog 74 #[.string s] w fun e w' => e = .returned (.int .i64 (atoiV (byts s))) ∧ Below w.heap.size w w' := by
 have ca := Hd (atoi_c s (by omega) w hg.1)
 go_enter Tryz.func74, Tryz.ntmps74
 go_wp2_with fail
 refine ca.out.mono ?_
 rintro e w1 ⟨ev, rfl, hb⟩
 replace hb := Hd hb
 clear ca
 go_wp2_with fail
 go_ret
 exact ⟨rfl, hb.out⟩
namespace Tl
def behF (l : List UInt8) : List UInt8 := if l = [] then [] else 32 :: l
end Tl
theorem behind_c (s : ByteArray) (hs : s.size ≤ 1000000) : Still 73 #[.string s] (.string (text (behF (byts s)))) := fun w => by
 have e0 := str_empty s
 unfold behF
 cases h : byts s with
 | nil =>
   rw [h] at e0
   have e1 := Hd (show text [] = s by rw [← h, text_byts])
   clear h
   go_enter Tryz.func73, Tryz.ntmps73
   go_wp2_with fail
   go_ret
   exact ⟨by rw [e1.out]; rfl, rfl⟩
 | cons c r =>
   rw [h] at e0
   have e1 := Hd (show text (32 :: c :: r) = ⟨#[32]⟩ ++ s by rw [← text_byts s, h, show (⟨#[32]⟩ : ByteArray) = text [32] from rfl, text_append]; rfl)
   have e2 : ¬ 9223372036854775807 < 1 + s.size := by omega
   clear h
   go_enter Tryz.func73, Tryz.ntmps73
   go_wp2_with fail
   go_ret
   exact ⟨by rw [e1.out]; rfl, rfl⟩
namespace Tl
def hexL : List UInt8 := [48, 49, 50, 51, 52, 53, 54, 55, 56, 57, 97, 98, 99, 100, 101, 102]
def hx (n : Nat) : UInt8 := hexL.getD n 0
def hexF (l : List UInt8) : List UInt8 := l.flatMap fun c => [hx (c.toNat / 16), hx (c.toNat % 16)]
theorem hexF_len (l : List UInt8) : (hexF l).length = 2 * l.length := by
 unfold hexF
 induction l with
 | nil => rfl
 | cons c r ih => rw [List.flatMap_cons, List.length_append, ih]; simp; omega
theorem hexF_snoc (l : List UInt8) (c : UInt8) : hexF (l ++ [c]) = hexF l ++ [hx (c.toNat / 16), hx (c.toNat % 16)] := by
 unfold hexF
 rw [List.flatMap_append]
 simp
end Tl
/-- the digit at a place of the constant -/
theorem exec_hex {ev : Operand → Value} {o : Oper} {y x : Operand} {T : ByteArray} {z : Int} {i p : Nat} (ho : o.op = .index 9 y x) (hev : ev y = .string T) (hxe : ev x = .int .u8 z) (hz : z = (i : Int)) (hi : i < 16) (hp : (hx i).toNat = p) (w : World) (hT : T = ⟨#[48, 49, 50, 51, 52, 53, 54, 55, 56, 57, 97, 98, 99, 100, 101, 102]⟩ := by rfl) :
 Sem.run Tryz.prog (execOp ev o) w = .ok (.value (.int .u8 (p : Int))) w := by
 subst hT hz hp
 have h := run_index_string (P := Tryz.prog) (w := w) 9 ⟨#[48, 49, 50, 51, 52, 53, 54, 55, 56, 57, 97, 98, 99, 100, 101, 102]⟩ .u8 (i : Int) Tryz.underlying9
 rw [dif_pos ⟨by omega, by show (i : Int) < 16; omega⟩] at h
 have hg : ∀ (k : Nat) (hk : k < 16), ((⟨#[48, 49, 50, 51, 52, 53, 54, 55, 56, 57, 97, 98, 99, 100, 101, 102]⟩ : ByteArray)[k]'hk) = Tl.hx k := by decide
 have h2 := hg i hi
 simp only [Int.toNat_natCast] at h
 rw [h2] at h
 unfold execOp
 simp only [ho, hev, hxe, Sem.run_bind, h, Result.andThen, Sem.run_pure]
theorem src_two (w : World) (a b : Int) : Src Tryz.prog 1 85 (.slice (some ⟨w.heap.size, 0, none⟩) 2 2) 2 [.int .u8 a, .int .u8 b] (w.alloc (.cells #[.int .u8 a, .int .u8 b] 5)) :=
 Src.ofSlice _ Tryz.underlying85 ⟨w.heap.size, 0, none⟩ 2 2 _ rfl (by
  intro j u hj
  have hc := (IsC.new w 5 #[.int .u8 a, .int .u8 b]).cell j
  rw [show (⟨w.heap.size, 0, none⟩ : Addr).add j = ⟨w.heap.size, j, none⟩ by unfold Addr.add; split <;> simp_all]
  rw [hc]
  simpa using hj) (by intro u hu; simp at hu; rcases hu with rfl | rfl <;> rfl)
theorem hex_c (s : ByteArray) (hs : s.size ≤ 1000000) (w : World) : Calls Tryz.prog 18 #[.string s] w fun e w' => e = .returned (.string (text (hexF (byts s)))) ∧ Below w.heap.size w w' := by
 obtain ⟨i0, hi, hz0, hz1, hz2⟩ := info_parts infoU8
 obtain ⟨R, hR⟩ : ∃ R, text (hexF (byts s)) = R := ⟨_, rfl⟩
 rw [hR]
 replace hR := Hd hR
 have hmk := run_make_room (P := Tryz.prog) 85 5 (.int .u8 0) 1 Tryz.underlying85 infoU8 rfl .i64 .i64 (2 * s.size) (by omega) (by omega) w
 rw [show (((2 * s.size : Nat)) : Int) = 2 * (s.size : Int) by omega] at hmk
 obtain ⟨w0, hw0⟩ : ∃ w0, w.alloc (.cells (madeCells #[.int .u8 0] (2 * s.size)) 5) = w0 := ⟨_, rfl⟩
 have hown0 : w0.ownsRow w.heap.size 5 1 (.slice (some ⟨w.heap.size, 0, none⟩) 0 (2 * s.size)) 0 (bv []) := by
  rw [← hw0]
  exact World.ownsRow_made w _ (2 * s.size) (Nat.le_refl _) (by unfold maxLen; omega) (by rw [size_madeCells, Nat.mul_one])
 have hbw0 : Below w.heap.size w w0 := by rw [← hw0]; exact below1 w _
 rw [hw0] at hmk
 replace hown0 := Hd hown0
 replace hbw0 := Hd hbw0
 clear hw0
 go_enter Tryz.func18, Tryz.ntmps18
 go_wp2_with fail
 clear hmk
 go_loopw [3, 11] (fun b i wr => ∃ j : Nat, j ≤ s.size ∧ i = .int .i64 j ∧ (∃ a c, b = .slice a (2 * j) c ∧ wr.ownsRow w.heap.size 5 1 (.slice a (2 * j) c) (2 * j) (bv (hexF ((byts s).take j)))) ∧ Below w.heap.size w wr) (fun _ i _ => s.size - (intOf i).toNat)
 case atStart => exact ⟨0, Nat.zero_le _, rfl, ⟨_, _, rfl, hown0.out⟩, hbw0.out⟩
 case round =>
  clear hown0 hbw0
  obtain ⟨j, hj, rfl, ⟨b, d, rfl, hown⟩, hb⟩ := hrel
  have hbz := hb.size
  have hlen := Hd (show 2 * j ≤ 2000000 by omega)
  by_cases hlt : j < s.size
  ·have hltI : (j : Int) < (s.size : Int) := by omega
   have hst := take_at s j hlt
   have hxb := s[j].toNat_lt
   have a1 : bits .and .u8 (s[j].toNat : Int) 15 = (s[j].toNat : Int) % 16 := by
    have h := u8_and_nat s[j].toNat 15 (by omega) (by decide)
    rw [show s[j].toNat &&& 15 = s[j].toNat % 2 ^ 4 from Nat.and_two_pow_sub_one_eq_mod s[j].toNat 4] at h
    exact h.trans (by omega)
   obtain ⟨x, hxj⟩ : ∃ x, s[j] = x := ⟨_, rfl⟩
   rw [hxj] at hst hxb a1
   obtain ⟨H, hHx⟩ : ∃ H, H = (hx (x.toNat / 16)).toNat := ⟨_, rfl⟩
   obtain ⟨L, hLx⟩ : ∃ L, L = (hx (x.toNat % 16)).toNat := ⟨_, rfl⟩
   replace hHx := Hd hHx
   replace hLx := Hd hLx
   replace hst := Hd hst
   replace hown := Hd hown
   replace hb := Hd hb
   go_wp2_with fail
   refine wp_region_held_at (S := fun w1 => True) 14 rfl (by kernel_rfl) (by go_keep) (fun hH => ?_)
   refine wpU 0 ?_ rfl ?_ ?_
   rotate_left
   ·intro u h; (try simp only [ls3]); go_simp; try with_reducible rfl
   try simp only [ls7, Act.put]
   refine wpU 1 ?_ rfl ?_ ?_
   rotate_left
   ·intro u h; (try simp only [ls3]); go_simp; try with_reducible rfl
   try simp only [ls7, Act.put]
   refine wpU 2 ?_ rfl ?_ ?_
   rotate_left
   ·intro u h; (try simp only [ls3]); go_simp; try with_reducible rfl
   try simp only [ls7, Act.put]
   refine wpU 3 ?_ rfl ?_ ?_
   rotate_left
   ·intro u h; (try simp only [ls3]); go_simp; try with_reducible rfl
   try simp only [ls7, Act.put]
   refine wpU 4 ?_ rfl ?_ ?_
   rotate_left
   ·intro u h; (try simp only [ls3]); go_simp; try with_reducible rfl
   try simp only [ls7, Act.put]
   refine wpAnyH_take (i := 5) (v := .int .u8 (H : Int)) rfl (by decide +kernel) (by decide +kernel) (by decide +kernel) (fun _ _ _ h => h) (Or.inl ⟨by rfl, ?_⟩) (by assumption) ?_
   ·intro w1 hSw
    exact exec_hex (i := x.toNat / 16) rfl rfl rfl (by first | rfl | simp | omega) (by omega) hHx.out.symm w1
   try simp only [ls7, Act.put]
   refine wpU 6 ?_ rfl ?_ ?_
   rotate_left
   ·intro u h; (try simp only [ls3]); go_simp; try with_reducible rfl
   try simp only [ls7, Act.put]
   refine wpU 7 ?_ rfl ?_ ?_
   rotate_left
   ·intro u h; (try simp only [ls3]); go_simp; try with_reducible rfl
   try simp only [ls7, Act.put]
   refine wpU 8 ?_ rfl ?_ ?_
   rotate_left
   ·intro u h; (try simp only [ls3]); go_simp; try with_reducible rfl
   try simp only [ls7, Act.put]
   refine wpU 9 ?_ rfl ?_ ?_
   rotate_left
   ·intro u h; (try simp only [ls3]); go_simp; try with_reducible rfl
   try simp only [ls7, Act.put]
   refine wpAnyH_take (i := 10) (v := .int .u8 (L : Int)) rfl (by decide +kernel) (by decide +kernel) (by decide +kernel) (fun _ _ _ h => h) (Or.inl ⟨by rfl, ?_⟩) (by assumption) ?_
   ·intro w1 hSw
    exact exec_hex (i := x.toNat % 16) rfl rfl rfl (by first | rfl | exact a1 | simp | omega) (by omega) hLx.out.symm w1
   try simp only [ls7, Act.put]
   refine wpAnyH_ready (rs := [11]) (by decide +kernel) (by simp) ?_
   refine AllReadyH.cons rfl (fun K hK => ?_) AllReadyH.nil
   (try simp only [ls3])
   go_simp
   refine hK.out _ _ (by go_keep) (fun hH => ?_)
   clear hK K
   try simp only [ls7, Act.put]
   have hown2 := Hd (hown.out.alloc (.cells #[.int .u8 (H : Int), .int .u8 (L : Int)] 5))
   have hb2 := Hd ((below_drewed hb.out).alloc (by exact hbz) (.cells #[.int .u8 (H : Int), .int .u8 (L : Int)] 5))
   have hb2s := hb2.out.size
   have hsrc := src_two wr.drew (H : Int) (L : Int)
   refine wpAnyH_ready (rs := [12]) (by decide +kernel) (by simp) ?_
   refine AllReadyH.cons rfl (fun K hK => ?_) AllReadyH.nil
   (try simp only [ls3])
   rw [if_pos (by rfl)]
   refine step_append_own_src (w := (wr.alloc (.cells #[.int .u8 (H : Int), .int .u8 (L : Int)] 5)).drew) (v := .slice b (2 * j) d) (xv := .slice (some ⟨wr.heap.size, 0, none⟩) 2 2) (.tmp 14) (.tmp 25) 85 85 ?_ w.heap.size 5 i0 (.int .u8 0) 1 1 Tryz.underlying85 hi hz0 hz1 hz2 ?_ ?_ hown2.out ?_ hsrc ?_ ?_ ?_ ?_
   ·rfl
   ·rfl
   ·rfl
   ·rfl
   ·have := hlen.out; unfold maxLen; omega
   ·have := hlen.out; omega
   ·exact hb2s
   intro b' c' w4 hown3 hg1
   have hfin := Hd (Below.grown hb2.out hg1 hb2s (fun q hq => by have := World.ownsRow.lt hown2.out q hq; omega))
   rw [show ([.int .u8 (H : Int), .int .u8 (L : Int)] : List Value) = bv [hx (x.toNat / 16), hx (x.toNat % 16)] by rw [hHx.out, hLx.out]; rfl, ← bv_append] at hown3
   replace hown3 := Hd hown3
   clear hg1 hsrc hown2
   refine hK.out _ _ (by go_keep) (fun hH => ?_)
   clear hK K
   try simp only [ls7, Act.put]
   refine wpU 13 ?_ rfl ?_ ?_
   rotate_left
   ·intro u h; (try simp only [ls3]); go_simp; try with_reducible rfl
   try simp only [ls7, Act.put]
   refine wpAnyH_done (by decide +kernel) ?_ _
   go_wp2_with fail
   go_roundw
   case rel => exact ⟨j + 1, by omega, by go_num, ⟨b', c', by congr 1, by rw [hst.out, hexF_snoc]; exact hown3.out⟩, hfin.out⟩
   case measure => simp [intOf]; omega
  ·obtain rfl : j = s.size := by omega
   rw [take_all] at hown
   have hstr := run_string_own (P := Tryz.prog) wr 85 9 5 Tryz.underlying85 Tryz.underlying5 Tryz.underlying9 hown
   replace hb := Hd hb
   rw [hR.out] at hstr
   clear hown hR
   go_wp2_with fail
   go_ret
   exact ⟨rfl, hb.out⟩
namespace Tl
/-- two digits a byte, read -/
def unhexF : List UInt8 → Option (List UInt8)
 | [] => some []
 | [_] => none
 | a :: b :: r => if dgtF a < 0 ∨ dgtF b < 0 then none else (unhexF r).map (UInt8.ofNat (16 * (dgtF a).toNat + (dgtF b).toNat) :: ·)
theorem unhex_odd : ∀ l : List UInt8, l.length % 2 = 1 → unhexF l = none
 | [], h => by simp at h
 | [_], _ => rfl
 | a :: b :: r, h => by
   rw [unhexF, unhex_odd r (by simp at h; omega)]
   split <;> rfl
theorem unhex_app : ∀ (k : Nat) (l m : List UInt8), l.length = 2 * k → unhexF (l ++ m) = (unhexF l).bind fun d => (unhexF m).map (d ++ ·)
 | 0, l, m, h => by
   obtain rfl := List.eq_nil_of_length_eq_zero (by omega : l.length = 0)
   show unhexF m = (unhexF m).map ([] ++ ·)
   cases unhexF m <;> rfl
 | k + 1, [], m, h => by simp at h
 | k + 1, [_], m, h => by simp at h; omega
 | k + 1, a :: b :: r, m, h => by
   rw [List.cons_append, List.cons_append, unhexF, unhexF, unhex_app k r m (by simp at h; omega)]
   split
   ·rfl
   ·cases unhexF r with
    | none => rfl
    | some d =>
      show ((unhexF m).map (d ++ ·)).map _ = (unhexF m).map _
      cases unhexF m <;> rfl
theorem unhex_two {l : List UInt8} {k : Nat} {x y : UInt8} {d : List UInt8} (hl : l.length = 2 * k) (h : unhexF l = some d) : unhexF (l ++ [x] ++ [y]) = if dgtF x < 0 ∨ dgtF y < 0 then none else some (d ++ [UInt8.ofNat (16 * (dgtF x).toNat + (dgtF y).toNat)]) := by
 rw [List.append_assoc, unhex_app k l _ hl, h]
 show (unhexF [x, y]).map (d ++ ·) = _
 rw [unhexF]
 split <;> rfl
theorem unhex_bad {s : ByteArray} {k j : Nat} (hk : 2 * k = j) {x y : UInt8} {d : List UInt8} (hj : j + 1 < s.size) (hx : s[j] = x) (hy : s[j + 1] = y) (h : unhexF ((byts s).take j) = some d) (hb : dgtF x < 0 ∨ dgtF y < 0) : unhexF (byts s) = none := by
 have e1 := take_at s j (by omega)
 have e2 := take_at s (j + 1) hj
 have hl : ((byts s).take j).length = 2 * k := by rw [List.length_take, byts_length]; omega
 have e3 := unhex_two (x := x) (y := y) hl h
 rw [if_pos hb, ← hx, ← hy, ← e1, ← e2] at e3
 rw [← List.take_append_drop (j + 1 + 1) (byts s), unhex_app (k + 1) _ _ (by rw [List.length_take, byts_length]; omega), e3]
 rfl
theorem unhex_step {s : ByteArray} {k j : Nat} (hk : 2 * k = j) {x y : UInt8} {d : List UInt8} (hj : j + 1 < s.size) (hx : s[j] = x) (hy : s[j + 1] = y) (h : unhexF ((byts s).take j) = some d) (hb : ¬ (dgtF x < 0 ∨ dgtF y < 0)) : unhexF ((byts s).take (j + 2)) = some (d ++ [UInt8.ofNat (16 * (dgtF x).toNat + (dgtF y).toNat)]) := by
 have e1 := take_at s j (by omega)
 have e2 := take_at s (j + 1) hj
 have hl : ((byts s).take j).length = 2 * k := by rw [List.length_take, byts_length]; omega
 have e3 := unhex_two (x := x) (y := y) hl h
 rw [if_neg hb, ← hx, ← hy, ← e1, ← e2] at e3
 rw [← hx, ← hy]
 exact e3
theorem idx_hex (c : UInt8) : Lib.indexByte hexL c = dgtF c := by
 have h : ∀ c : Fin 256, Lib.indexByte hexL (UInt8.ofNat c.val) = dgtF (UInt8.ofNat c.val) := by decide +kernel
 have := h ⟨c.toNat, c.toNat_lt⟩
 simpa using this
/-- bytes of digits; the error -/
def bytesF (l : List UInt8) : List UInt8 × Int := match unhexF l with
 | none => ([], 4)
 | some d => (d, 0)
end Tl
theorem ixb_c (c : UInt8) (w : World) : Calls Tryz.prog 43 #[.string ⟨#[48, 49, 50, 51, 52, 53, 54, 55, 56, 57, 97, 98, 99, 100, 101, 102]⟩, .int .u8 (c.toNat : Int)] w fun e w' => e = .returned (.int .i64 (dgtF c)) ∧ w' = w := by
 have h := Go.Proofs.Any.strings_IndexByte Tryz.lays137 ⟨#[48, 49, 50, 51, 52, 53, 54, 55, 56, 57, 97, 98, 99, 100, 101, 102]⟩ (c.toNat : Int) w
 rw [show ((c.toNat : Int)).toNat.toUInt8 = c by simp] at h
 rw [show (⟨#[48, 49, 50, 51, 52, 53, 54, 55, 56, 57, 97, 98, 99, 100, 101, 102]⟩ : ByteArray).data.toList = hexL from rfl, idx_hex] at h
 exact h
theorem src_b (w : World) (a : Int) : Src Tryz.prog 1 85 (.slice (some ⟨w.heap.size, 0, none⟩) 1 1) 1 [.int .u8 a] (w.alloc (.cells #[.int .u8 a] 5)) :=
 Src.ofSlice _ Tryz.underlying85 ⟨w.heap.size, 0, none⟩ 1 1 _ rfl (cell_one_new _ _ _) (by intro u hu; simp at hu; subst hu; rfl)
theorem cell_u8 {H L : Nat} (hH : H < 16) (hL : L < 16) {z : Int} (hz : z = (H : Int) * 16 + (L : Int)) : ([.int .u8 z] : List Value) = bv [UInt8.ofNat (16 * H + L)] := by
 subst hz
 rw [bv_one]
 have : (UInt8.ofNat (16 * H + L)).toNat = 16 * H + L := by rw [UInt8.toNat_ofNat']; omega
 rw [this]
 congr 2
 omega
theorem or_hex (H L : Nat) (hH : H < 16) (hL : L < 16) : bits .or .i64 ((H : Int) * 16) (L : Int) = (H : Int) * 16 + (L : Int) := by
 have h : ∀ a b : Fin 16, bits .or .i64 ((a.val : Int) * 16) (b.val : Int) = (a.val : Int) * 16 + (b.val : Int) := by decide +kernel
 exact h ⟨H, hH⟩ ⟨L, hL⟩
theorem bytes_c (s : ByteArray) (hs : s.size ≤ 1000000) (w : World) : Calls Tryz.prog 16 #[.string s] w fun e w' => e = .returned (.tuple #[.string (text (bytesF (byts s)).1), .int .i64 (bytesF (byts s)).2]) ∧ Below w.heap.size w w' := by
 obtain ⟨i0, hi, hz0, hz1, hz2⟩ := info_parts infoU8
 obtain ⟨R, hR⟩ : ∃ R, bytesF (byts s) = R := ⟨_, rfl⟩
 rw [hR]
 unfold bytesF at hR
 obtain ⟨R1, R2⟩ := R
 dsimp only
 by_cases hodd : s.size % 2 = 1
 ·rw [unhex_odd _ (by rw [byts_length]; exact hodd)] at hR
  obtain ⟨r1, rfl⟩ := Prod.mk.inj hR
  have e1 := Hd (show text R1 = ⟨#[]⟩ by rw [← r1]; rfl)
  have e2 : ((s.size : Int) % 2 != 0) = true := by
   rw [bne_iff_ne]
   omega
  clear hR r1
  go_enter Tryz.func16, Tryz.ntmps16
  go_wp2_with fail
  (try simp only [Exit.inBlock, Exit.then])
  refine bodyPost_ret (by simp [results, Tryz.results16, go_sem]; try rfl) rfl ?_
  exact ⟨by rw [e1.out], Below.refl _ _⟩
 ·have e2 : ((s.size : Int) % 2 != 0) = false := by
   rw [bne_eq_false_iff_eq]
   omega
  replace hR := Hd hR
  go_enter Tryz.func16, Tryz.ntmps16
  go_wp2_with fail
  clear e2
  go_loopw [4, 5] (fun b i wr => ∃ j k : Nat, ∃ D : List UInt8, 2 * k = j ∧ j ≤ s.size ∧ i = .int .i64 j ∧ unhexF ((byts s).take j) = some D ∧ D.length = k ∧ (∃ a c, b = .slice a k c ∧ wr.ownsRow w.heap.size 5 1 (.slice a k c) k (bv D)) ∧ Below w.heap.size w wr) (fun _ i _ => s.size - (intOf i).toNat)
  case atStart => exact ⟨0, 0, [], rfl, Nat.zero_le _, rfl, rfl, rfl, ⟨none, 0, rfl, World.ownsRow_nil w _ _ 1⟩, Below.refl _ _⟩
  case round =>
   obtain ⟨j, k, D, hk, hj, rfl, hD, hDl, ⟨b, d, rfl, hown⟩, hb⟩ := hrel
   have hbz := hb.size
   by_cases hlt : j < s.size
   ·have hltI : (j : Int) < (s.size : Int) := by omega
    have hlt1 : j + 1 < s.size := by omega
    have hltJ : (j : Int) + 1 < (s.size : Int) := by omega
    have q2 : ((j : Int) + 1).toNat = j + 1 := by omega
    have q1 : IntKind.i64.wrap ((j : Int) + 1) = (j : Int) + 1 := IntWalk.i64_in _ (by omega)
    obtain ⟨x, hxj⟩ : ∃ x, s[j] = x := ⟨_, rfl⟩
    obtain ⟨y, hyj⟩ : ∃ y, s[j + 1] = y := ⟨_, rfl⟩
    have hbad := fun hb => unhex_bad hk hlt1 hxj hyj hD hb
    have hgood := fun hb => unhex_step hk hlt1 hxj hyj hD hb
    have cx := fun n => ixb_c x (wr.drewN n)
    have cy := fun n => ixb_c y (wr.drewN n)
    have bx := dgtF_bd x
    have bY := dgtF_bd y
    generalize dgtF x = X at *
    generalize dgtF y = Y at *
    clear hD
    replace cx := Hd cx
    replace cy := Hd cy
    by_cases hneg : X < 0 ∨ Y < 0
    ·have hr := hR.out
     rw [hbad hneg] at hr
     obtain ⟨r1, rfl⟩ := Prod.mk.inj hr
     have e1 := Hd (show text R1 = ⟨#[]⟩ by rw [← r1]; rfl)
     have hm : min X Y < 0 := by omega
     clear hR hr r1 hbad hgood hown hneg
     replace hb := Hd hb
     go_wp2_with fail
     go_quiet (first | (exact Calls.quiet_of_same (cx.out _)) | (exact Calls.quiet_of_same (cy.out _)))
     go_wp2_with fail
     (try simp only [Exit.inBlock, Exit.then])
     refine bodyPost_ret (by simp [results, Tryz.results16, go_sem]; try rfl) rfl ?_
     exact ⟨by rw [e1.out], below_drewN hb.out⟩
    ·have hst := hgood hneg
     have hm : ¬ min X Y < 0 := by omega
     obtain ⟨H, rfl⟩ := Int.eq_ofNat_of_zero_le (show 0 ≤ X by omega)
     obtain ⟨L, rfl⟩ := Int.eq_ofNat_of_zero_le (show 0 ≤ Y by omega)
     have ho : bits .or .i64 ((H : Int) * 16) (L : Int) = (H : Int) * 16 + (L : Int) := or_hex H L (by omega) (by omega)
     simp only [Int.toNat_natCast] at hst
     clear hbad hgood hneg
     replace hst := Hd hst
     replace hb := Hd hb
     replace hown := Hd hown
     replace hDl := Hd hDl
     replace hk := Hd hk
     go_wp2_with fail
     go_quiet (first | (exact Calls.quiet_of_same (cx.out _)) | (exact Calls.quiet_of_same (cy.out _)))
     have hown1 : (wr.drewN nq).ownsRow w.heap.size 5 1 (.slice b k d) k (bv D) := hown.out
     have hb1 := below_drewN (k := nq) hb.out
     obtain ⟨wd, hwd⟩ : ∃ wd, wr.drewN nq = wd := ⟨_, rfl⟩
     rw [hwd] at hown1 hb1 ⊢
     have hb1s := hb1.size
     replace hown1 := Hd hown1
     replace hb1 := Hd hb1
     clear hwd hown hb cx cy
     have hsrc := src_b wd ((H : Int) * 16 + (L : Int))
     go_wp2_with (at_builtin; refine wpList_append_own_src _ rfl (.tmp 31) (.tmp 37) 85 85 rfl w.heap.size 5 i0 (.int .u8 0) 1 1 Tryz.underlying85 hi hz0 hz1 hz2 rfl rfl (World.ownsRow.alloc hown1.out _) rfl hsrc ?_ ?_ ?_ ?_)
     ·have := hk.out; unfold maxLen; omega
     ·have := hk.out; omega
     ·(try rw [size_alloc]); omega
     intro b' c' w4 hown3 hg1
     have hfin := Hd (Below.grown (hb1.out.alloc hb1s (.cells #[.int .u8 ((H : Int) * 16 + (L : Int))] 5)) hg1 (by rw [size_alloc]; omega) (fun q hq => by have := World.ownsRow.lt hown1.out q hq; omega))
     rw [cell_u8 (by omega) (by omega) rfl, ← bv_append] at hown3
     replace hown3 := Hd hown3
     clear hg1 hsrc hown1 hb1
     go_wp2_with fail
     go_roundw
     case rel => first | exact ⟨j + 2, k + 1, D ++ [UInt8.ofNat (16 * H + L)], by have := hk.out; omega, by omega, by go_num, hst.out, by rw [List.length_append, hDl.out]; rfl, ⟨b', c', rfl, hown3.out⟩, hfin.out⟩ | ((repeat apply Exists.intro); exact ⟨⟨j + 2, k + 1, D ++ [UInt8.ofNat (16 * H + L)], by have := hk.out; omega, by omega, by go_num, hst.out, by rw [List.length_append, hDl.out]; rfl, ⟨b', c', rfl, hown3.out⟩, hfin.out⟩, rfl⟩)
     case measure => simp [intOf]; omega
   ·obtain rfl : j = s.size := by omega
    rw [← byts_length s, List.take_length] at hD
    have hstr := run_string_own (P := Tryz.prog) wr 85 9 5 Tryz.underlying85 Tryz.underlying5 Tryz.underlying9 hown
    have hr := hR.out
    rw [hD] at hr
    obtain ⟨r1, rfl⟩ := Prod.mk.inj hr
    have e1 := Hd (show text R1 = text D by rw [r1])
    clear hR hr r1 hD hown
    replace hb := Hd hb
    go_wp2_with fail
    (try simp only [Exit.inBlock, Exit.then])
    refine bodyPost_ret (by simp [results, Tryz.results16, go_sem]; try rfl) rfl ?_
    exact ⟨by rw [e1.out], hb.out⟩
namespace Tl
theorem segsQ_last (q : UInt8) : ∀ l : List UInt8, segsQ q (l ++ [q]) = segsQ q l ++ [[]]
 | [] => by show segsQ q [q] = [[], []]; rw [segsQ_plus]; rfl
 | c :: r => by
   have ih := segsQ_last q r
   by_cases hc : c = q
   ·subst hc
    rw [List.cons_append, segsQ_plus, segsQ_plus, ih, List.cons_append]
   ·obtain ⟨y, t, h1, h2⟩ := segsQ_cons q c r hc
    obtain ⟨y', t', h3, h4⟩ := segsQ_cons q c (r ++ [q]) hc
    rw [List.cons_append, h4, h2]
    rw [ih, h1, List.cons_append] at h3
    cases h3
    rfl
theorem segsQ_more (q b : UInt8) (hb : b ≠ q) : ∀ l : List UInt8, ∃ L x, segsQ q l = L ++ [x] ∧ segsQ q (l ++ [b]) = L ++ [x ++ [b]]
 | [] => ⟨[], [], rfl, by show segsQ q [b] = [[b]]; rw [segsQ, if_neg hb]; rfl⟩
 | c :: r => by
   obtain ⟨L, x, h1, h2⟩ := segsQ_more q b hb r
   by_cases hc : c = q
   ·subst hc
    exact ⟨[] :: L, x, by rw [segsQ_plus, h1]; rfl, by rw [List.cons_append, segsQ_plus, h2]; rfl⟩
   ·cases L with
    | nil =>
      refine ⟨[], c :: x, ?_, ?_⟩
      ·rw [segsQ, if_neg hc, h1]; rfl
      ·rw [List.cons_append, segsQ, if_neg hc, h2]; rfl
    | cons y L =>
      refine ⟨(c :: y) :: L, x, ?_, ?_⟩
      ·rw [segsQ, if_neg hc, h1]; rfl
      ·rw [List.cons_append, segsQ, if_neg hc, h2]; rfl
theorem segsQ_len (q : UInt8) : ∀ l : List UInt8, (segsQ q l).length ≤ l.length + 1
 | [] => Nat.le_refl _
 | c :: r => by
   have ih := segsQ_len q r
   by_cases hc : c = q
   ·subst hc
    rw [segsQ_plus]
    simp
    exact ih
   ·obtain ⟨y, t, h1, h2⟩ := segsQ_cons q c r hc
    rw [h2]
    rw [h1] at ih
    simp at ih ⊢
    omega
theorem segsQ_mem (q : UInt8) : ∀ l : List UInt8, ∀ x ∈ segsQ q l, x.length ≤ l.length
 | [] => by intro x hx; rw [List.mem_singleton.1 hx]; exact Nat.le_refl _
 | c :: r => by
   intro x hx
   have ih := segsQ_mem q r
   by_cases hc : c = q
   ·subst hc
    rw [segsQ_plus] at hx
    rcases List.mem_cons.1 hx with rfl | hx
    ·exact Nat.zero_le _
    ·have := ih x hx
     simp
     omega
   ·obtain ⟨y, t, h1, h2⟩ := segsQ_cons q c r hc
    rw [h2] at hx
    rw [h1] at ih
    rcases List.mem_cons.1 hx with rfl | hx
    ·have := ih y (List.mem_cons_self ..)
     simp
     exact this
    ·have := ih x (List.mem_cons_of_mem _ hx)
     simp
     omega
theorem ext_one (s : ByteArray) (j : Nat) (h : j < s.size) : s.extract j (j + 1) = text [s[j]] := by
 apply ByteArray.ext
 apply Array.ext'
 have h1 := drop_at s j h
 unfold byts at h1
 simp [text]
 rw [h1]
 rfl
theorem sv_set (L : List (List UInt8)) (x y : List UInt8) : (sv (L ++ [x])).set L.length (.string (text y)) = sv (L ++ [y]) := by
 unfold sv
 rw [List.map_append, List.map_append, List.set_append_right _ _ (by rw [List.length_map]; exact Nat.le_refl _), List.length_map, Nat.sub_self]
 rfl
end Tl
theorem own_last {w : World} {B c : Nat} {a : Option Addr} {l L : List (List UInt8)} {x : List UInt8} (e : l = L ++ [x]) (h : OwnS w B a c l) : ∃ g, a = some ⟨g, 0, none⟩ ∧ B ≤ g ∧ w.cell? ⟨g, l.length - 1, none⟩ = some (.string (text x)) ∧ w.frozen? ⟨g, l.length - 1, none⟩ = false ∧
 ∀ y, OwnS (w.setCell ⟨g, l.length - 1, none⟩ (.string (text y))) B (some ⟨g, 0, none⟩) c (L ++ [y]) := by
 subst e
 have hl : (L ++ [x]).length - 1 = L.length := by rw [List.length_append]; rfl
 unfold OwnS at h
 rcases h.2 with ⟨hv, hn⟩ | ⟨g, cap, cur, hv, hb, hg, hc⟩
 ·rw [List.length_append] at hn
  cases hn
 ·obtain ⟨rfl, rfl⟩ : a = some ⟨g, 0, none⟩ ∧ c = cap := by cases hv; exact ⟨rfl, rfl⟩
  rw [hl]
  refine ⟨g, rfl, hb, ?_, World.ownsRow.frozenAt h _, fun y => ?_⟩
  ·rw [World.ownsRow.cellAt h L.length (by rw [List.length_append]; simp), sv_get _ _ (by simp)]
   simp
  ·have h2 := (World.ownsRow.stored h L.length (.string (text y))).1
   rw [sv_set] at h2
   unfold OwnS
   rw [List.length_append] at h2 ⊢
   exact h2
theorem rsplit_c (s : ByteArray) (hs : s.size ≤ 1000000) (q : UInt8) (w : World) :
 Calls Tryz.prog 106 #[.string s, .int .u8 (q.toNat : Int)] w fun e w' => (∃ a c, e = .returned (.slice a (segsQ q (byts s)).length c) ∧ OwnS w' w.heap.size a c (segsQ q (byts s))) ∧ Below w.heap.size w w' := by
 obtain ⟨i0, hi, hz0, hz1, hz2⟩ := info_parts infoStr
 have hown0 := own_lit w w.heap.size [[]] (Nat.le_refl _) (by unfold maxLen; simp)
 have hb0 := below1 w (.cells (sv [[]]).toArray 9)
 replace hown0 := Hd hown0
 replace hb0 := Hd hb0
 go_enter Tryz.func106, Tryz.ntmps106
 go_wp2_with fail
 go_loopw [5, 6] (fun b i wr => ∃ j : Nat, j ≤ s.size ∧ i = .int .i64 j ∧ (∃ a c, b = .slice a (segsQ q ((byts s).take j)).length c ∧ OwnS wr w.heap.size a c (segsQ q ((byts s).take j))) ∧ Below w.heap.size w wr) (fun _ i _ => s.size - (intOf i).toNat)
 case atStart => exact ⟨0, Nat.zero_le _, rfl, ⟨_, _, rfl, hown0.out⟩, hb0.out⟩
 case round =>
  clear hown0 hb0
  obtain ⟨j, hj, rfl, ⟨b, d, rfl, hown⟩, hb⟩ := hrel
  have hbz := hb.size
  by_cases hlt : j < s.size
  ·have hltI : (j : Int) < (s.size : Int) := by omega
   have hst := take_at s j hlt
   have hn1 := segsQ_len q ((byts s).take j)
   rw [List.length_take] at hn1
   have heq := u8_eq s[j] q
   by_cases hx : s[j] = q
   ·rw [decide_eq_true hx] at heq
    rw [hx, ] at hst
    have hst2 := segsQ_last q ((byts s).take j)
    rw [← hst] at hst2
    generalize hL0 : segsQ q ((byts s).take j) = L at *
    generalize hL1 : segsQ q ((byts s).take (j + 1)) = L' at *
    clear hst hL0
    replace hst2 := Hd hst2
    replace hown := Hd hown
    replace hb := Hd hb
    replace hn1 := Hd hn1
    replace hL1 := Hd hL1
    have hsrc := src_str wr (text [])
    rw [show text [] = ⟨#[]⟩ from rfl] at hsrc
    go_wp2_with (at_builtin; refine wpList_append_own_src _ rfl (.tmp 19) (.tmp 20) 76 76 rfl w.heap.size 9 i0 (.string ⟨#[]⟩) 1 16 Tryz.underlying76 hi hz0 hz1 hz2 rfl rfl (hown.out.alloc _) rfl hsrc ?_ ?_ ?_ ?_)
    ·have := hn1.out; unfold maxLen; omega
    ·have := hn1.out; omega
    ·(try rw [size_alloc]); omega
    intro b' c' w4 hown3 hg1
    have hfin := Hd (Below.grown (hb.out.alloc hbz (.cells #[.string ⟨#[]⟩] 9)) hg1 (by rw [size_alloc]; omega) (fun q hq => by have := World.ownsRow.lt hown.out q hq; omega))
    rw [show ([.string ⟨#[]⟩] : List Value) = sv [[]] from rfl, ← sv_append] at hown3
    have hown4 : OwnS w4 w.heap.size b' c' (L ++ [[]]) := by
     unfold OwnS
     rw [List.length_append]
     exact hown3
    replace hown4 := Hd hown4
    clear hg1 hsrc hown3 hown hb
    go_wp2_with fail
    go_roundw
    case rel => exact ⟨j + 1, by omega, by go_num, ⟨b', c', by rw [hL1.out, hst2.out, List.length_append]; rfl, by rw [hL1.out, hst2.out]; exact hown4.out⟩, hfin.out⟩
    case measure => simp [intOf]; omega
   ·rw [decide_eq_false hx] at heq
    obtain ⟨L, x, hL, hL2⟩ := segsQ_more q s[j] hx ((byts s).take j)
    rw [← hst] at hL2
    have hext := ext_one s j hlt
    have hcat : text x ++ s.extract j (j + 1) = text (x ++ [s[j]]) := by rw [hext, text_append]
    have hxl : (x ++ [s[j]]).length ≤ j + 1 := by
     have h1 := segsQ_mem q ((byts s).take (j + 1)) (x ++ [s[j]]) (by rw [hL2]; simp)
     rw [List.length_take] at h1
     omega
    rw [List.length_append] at hxl
    simp only [List.length_singleton] at hxl
    obtain ⟨g, hvb, hBg, hcell, hfz, hset⟩ := own_last hL hown
    subst hvb
    have hn0 : 1 ≤ (segsQ q ((byts s).take j)).length := by rw [hL, List.length_append]; simp
    have hlL : (L ++ [x ++ [s[j]]]).length = (segsQ q ((byts s).take j)).length := by rw [hL, List.length_append, List.length_append]; rfl
    generalize (segsQ q ((byts s).take j)).length = n at *
    generalize hL' : segsQ q ((byts s).take (j + 1)) = L' at *
    clear hst hL hown hext
    have q0 : IntKind.i64.wrap ((j : Int) + 1) = (j : Int) + 1 := IntWalk.i64_in _ (by omega)
    have q1 : IntKind.i64.wrap ((n : Int) - 1) = (n : Int) - 1 := IntWalk.i64_in _ (by omega)
    have q2 : ((n : Int) - 1).toNat = n - 1 := by omega
    have q3 : (0 : Int) ≤ (n : Int) - 1 := by omega
    have q6 : (n : Int) - 1 < (n : Int) := by omega
    have q4 : ((j : Int) + 1).toNat = j + 1 := by omega
    have q7 : (j : Int) ≤ (j : Int) + 1 := by omega
    have q8 : (j : Int) + 1 ≤ (s.size : Int) := by omega
    have q5 : ¬ 9223372036854775807 < (text x).size + 1 := by rw [text_size]; omega
    have q9 : (s.extract j (j + 1)).size = 1 := by rw [ByteArray.size_extract]; omega
    replace hcat := Hd hcat
    replace hset := Hd hset
    replace hL2 := Hd hL2
    replace hlL := Hd hlL
    replace hb := Hd hb
    replace hL' := Hd hL'
    go_wp2_with fail
    go_region
    have hown3 := hset.out (x ++ [s[j]])
    rw [← hcat.out] at hown3
    have hb1 := hb.out.setCell (p := ⟨g, n - 1, none⟩) hBg (.string (text x ++ s.extract j (j + 1)))
    obtain ⟨w4, hw4⟩ : ∃ w4, wr.setCell ⟨g, n - 1, none⟩ (.string (text x ++ s.extract j (j + 1))) = w4 := ⟨_, rfl⟩
    rw [hw4] at hown3 hb1
    replace hown3 := Hd hown3
    have hfin := Hd (below_drewed hb1)
    go_wp2_with fail
    go_roundw
    case rel => exact ⟨j + 1, by omega, by go_num, ⟨_, _, by rw [hL'.out, hL2.out, hlL.out], by rw [hL'.out, hL2.out]; exact hown3.out⟩, hfin.out⟩
    case measure => simp [intOf]; omega
  ·obtain rfl : j = s.size := by omega
   rw [take_all] at hown ⊢
   replace hb := Hd hb
   replace hown := Hd hown
   go_wp2_with fail
   go_ret
   exact ⟨⟨_, _, rfl, hown.out⟩, hb.out⟩
namespace Tl
theorem valD_lt : ∀ l : List UInt8, l.all isDig = true → valD l < 10 ^ l.length := by
 intro l
 suffices h : ∀ (k : Nat) (l : List UInt8), l.length = k → l.all isDig = true → valD l < 10 ^ k from fun hl => h _ l rfl hl
 intro k
 induction k with
 | zero => intro l hl _; rw [List.eq_nil_of_length_eq_zero hl]; decide
 | succ k ih =>
   intro l hl hd
   have hne : l ≠ [] := by rintro rfl; cases hl
   rw [← List.dropLast_concat_getLast hne] at hd ⊢
   rw [List.all_append, Bool.and_eq_true] at hd
   have h1 := ih l.dropLast (by rw [List.length_dropLast, hl]; rfl) hd.1
   have h2 := hd.2
   simp only [List.all_cons, List.all_nil, Bool.and_true] at h2
   unfold isDig at h2
   simp at h2
   rw [valD_snoc, Nat.pow_succ]
   omega
/-- a handle's number -/
def num19F (l : List UInt8) : Int := if l.length < 1 ∨ 10 < l.length ∨ l.head? = some 48 then 0 else if l.all isDig = true then (if 4294967295 < valD l then 0 else (valD l : Int)) else 0
theorem all_not {s : ByteArray} {j : Nat} (h : j < s.size) (hd : isDig s[j] = false) : (byts s).all isDig = false := by
 rw [List.all_eq_false]
 exact ⟨s[j], List.mem_of_getElem? (byts_at s j h), by rw [hd]; decide⟩
theorem all_take {s : ByteArray} {j : Nat} (h : j < s.size) (ha : ((byts s).take j).all isDig = true) (hd : isDig s[j] = true) : ((byts s).take (j + 1)).all isDig = true := by
 rw [take_at s j h, List.all_append, ha, List.all_cons, hd]
 rfl
theorem head_at (s : ByteArray) (h : 0 < s.size) : (byts s).head? = some s[0] := by
 have := byts_at s 0 h
 rw [List.head?_eq_getElem?]
 exact this
theorem isDig_of {c : UInt8} (h0 : 48 ≤ c.toNat) (h1 : c.toNat ≤ 57) : isDig c = true := by unfold isDig; rw [decide_eq_true h0, decide_eq_true h1]; rfl
theorem isDig_no {c : UInt8} (h : c.toNat < 48 ∨ 57 < c.toNat) : isDig c = false := by
 unfold isDig
 rw [Bool.and_eq_false_iff, decide_eq_false_iff_not, decide_eq_false_iff_not]
 omega
end Tl
theorem num19_c (s : ByteArray) (hs : s.size ≤ 1000000) : Still 107 #[.string s] (.int .u64 (num19F (byts s))) := fun w => by
 obtain ⟨R, hR⟩ : ∃ R, num19F (byts s) = R := ⟨_, rfl⟩
 rw [hR]
 unfold num19F at hR
 rw [byts_length] at hR
 by_cases h0 : s.size < 1
 ·rw [if_pos (.inl h0)] at hR
  subst hR
  have h0I : (s.size : Int) < 1 := by omega
  clear h0
  go_enter Tryz.func107, Tryz.ntmps107
  go_wp2_with fail
  go_ret
  exact ⟨rfl, rfl⟩
 have h0I : ¬ (s.size : Int) < 1 := by omega
 by_cases h1 : 10 < s.size
 ·rw [if_pos (.inr (.inl h1))] at hR
  subst hR
  have h1I : (10 : Int) < (s.size : Int) := by omega
  clear h1
  go_enter Tryz.func107, Tryz.ntmps107
  go_wp2_with fail
  go_ret
  exact ⟨rfl, rfl⟩
 have h1I : ¬ (10 : Int) < (s.size : Int) := by omega
 have hp : 0 < s.size := by omega
 have hpI : (0 : Int) < (s.size : Int) := by omega
 rw [head_at s hp] at hR
 have heq := u8_eq s[0] 48
 rw [show (((48 : UInt8).toNat : Nat) : Int) = 48 from rfl] at heq
 by_cases h2 : s[0] = 48
 ·rw [if_pos (.inr (.inr (by rw [h2])))] at hR
  subst hR
  rw [decide_eq_true h2] at heq
  clear h2
  go_enter Tryz.func107, Tryz.ntmps107
  go_wp2_with fail
  go_ret
  exact ⟨rfl, rfl⟩
 rw [if_neg (by rintro (h | h | h); exact h0 h; exact h1 h; exact h2 (Option.some.inj h))] at hR
 rw [decide_eq_false h2] at heq
 clear h2
 replace hR := Hd hR
 go_enter Tryz.func107, Tryz.ntmps107
 go_wp2_with fail
 go_loop [3, 4] (fun n i => ∃ j v : Nat, j ≤ s.size ∧ i = .int .i64 j ∧ n = .int .u64 v ∧ ((byts s).take j).all isDig = true ∧ valD ((byts s).take j) = v) (fun _ i => s.size - (intOf i).toNat)
 case atStart => exact ⟨0, 0, Nat.zero_le _, rfl, rfl, rfl, rfl⟩
 case round =>
  obtain ⟨j, v, hj, rfl, rfl, hall, hv⟩ := hrel
  have hvb := valD_lt _ hall
  rw [hv, List.length_take, byts_length] at hvb
  have hvb2 : v < 10 ^ 10 := Nat.lt_of_lt_of_le hvb (Nat.pow_le_pow_right (by decide) (by omega))
  have hvI : (v : Int) < 10000000000 := by omega
  by_cases hlt : j < s.size
  ·have hltI : (j : Int) < (s.size : Int) := by omega
   have hst := take_at s j hlt
   have hvb9 : v < 10 ^ 9 := Nat.lt_of_lt_of_le hvb (Nat.pow_le_pow_right (by decide) (by omega))
   have hnot := fun h => all_not hlt h
   have hyes := fun h => all_take hlt hall h
   obtain ⟨x, hxj⟩ : ∃ x, s[j] = x := ⟨_, rfl⟩
   rw [hxj] at hst hnot hyes
   have hvs : valD ((byts s).take (j + 1)) = v * 10 + (x.toNat - 48) := by rw [hst, valD_snoc, hv]
   by_cases g1 : x.toNat < 48
   ·have hr := hR.out
    rw [if_neg (by rw [hnot (isDig_no (.inl g1))]; decide)] at hr
    subst hr
    have g1I : (x.toNat : Int) < 48 := by omega
    clear hR hnot hyes hst hvs hall hv g1
    go_wp2_with fail
    go_ret
    exact ⟨rfl, rfl⟩
   by_cases g2 : 57 < x.toNat
   ·have hr := hR.out
    rw [if_neg (by rw [hnot (isDig_no (.inr g2))]; decide)] at hr
    subst hr
    have g1I : ¬ (x.toNat : Int) < 48 := by omega
    have g2I : (57 : Int) < (x.toNat : Int) := by omega
    clear hR hnot hyes hst hvs hall hv g1 g2
    go_wp2_with fail
    go_ret
    exact ⟨rfl, rfl⟩
   have g1I : ¬ (x.toNat : Int) < 48 := by omega
   have g2I : ¬ (57 : Int) < (x.toNat : Int) := by omega
   have hy := hyes (isDig_of (by omega) (by omega))
   replace hy := Hd hy
   replace hvs := Hd hvs
   clear hnot hyes hst hall hv hvb
   go_wp2_with fail
   go_round
   case rel => exact ⟨j + 1, v * 10 + (x.toNat - 48), by omega, by go_num, by congr 1; omega, hy.out, hvs.out⟩
   case measure => simp [intOf]; omega
  ·obtain rfl : j = s.size := by omega
   rw [take_all] at hall hv
   have hr := hR.out
   rw [if_pos hall, hv] at hr
   clear hR hall hv hvb
   by_cases g : 4294967295 < v
   ·rw [if_pos g] at hr
    subst hr
    have gI : (4294967295 : Int) < (v : Int) := by omega
    go_wp2_with fail
    go_ret
    exact ⟨rfl, rfl⟩
   ·rw [if_neg g] at hr
    subst hr
    have gI : ¬ (4294967295 : Int) < (v : Int) := by omega
    go_wp2_with fail
    go_ret
    exact ⟨rfl, rfl⟩
namespace Tl
/-- a number's digits, read; 0 at whatever fault -/
def numGo : Nat → List UInt8 → Int
 | n, [] => n
 | n, c :: r => if c.toNat < 48 ∨ 57 < c.toNat ∨ (9223372036854775807 - (c.toNat - 48)) / 10 < n then 0 else numGo (n * 10 + (c.toNat - 48)) r
end Tl
theorem rnum_c (s : ByteArray) (hs : s.size ≤ 1000000) : Still 79 #[.string s] (.int .i64 (numGo 0 (byts s))) := fun w => by
 obtain ⟨R, hR⟩ : ∃ R, numGo 0 (byts s) = R := ⟨_, rfl⟩
 rw [hR]
 replace hR := Hd hR
 go_enter Tryz.func79, Tryz.ntmps79
 go_wp2_with fail
 go_loop [3, 4] (fun n i => ∃ j v : Nat, j ≤ s.size ∧ i = .int .i64 j ∧ n = .int .i64 v ∧ v ≤ 9223372036854775807 ∧ numGo v ((byts s).drop j) = R) (fun _ i => s.size - (intOf i).toNat)
 case atStart => exact ⟨0, 0, Nat.zero_le _, rfl, rfl, by decide, hR.out⟩
 case round =>
  clear hR
  obtain ⟨j, v, hj, rfl, rfl, hv, hrest⟩ := hrel
  have hvI : (v : Int) ≤ 9223372036854775807 := by omega
  by_cases hlt : j < s.size
  ·have hltI : (j : Int) < (s.size : Int) := by omega
   have hst := drop_at s j hlt
   obtain ⟨x, hxj⟩ : ∃ x, s[j] = x := ⟨_, rfl⟩
   rw [hxj] at hst
   rw [hst, numGo] at hrest
   have hxb := x.toNat_lt
   by_cases g1 : x.toNat < 48
   ·rw [if_pos (.inl g1)] at hrest
    subst hrest
    have g1I : (x.toNat : Int) < 48 := by omega
    clear hst g1
    go_wp2_with fail
    go_ret
    exact ⟨rfl, rfl⟩
   by_cases g2 : 57 < x.toNat
   ·rw [if_pos (.inr (.inl g2))] at hrest
    subst hrest
    have g1I : ¬ (x.toNat : Int) < 48 := by omega
    have g2I : (57 : Int) < (x.toNat : Int) := by omega
    clear hst g1 g2
    go_wp2_with fail
    go_ret
    exact ⟨rfl, rfl⟩
   have g1I : ¬ (x.toNat : Int) < 48 := by omega
   have g2I : ¬ (57 : Int) < (x.toNat : Int) := by omega
   by_cases g3 : (9223372036854775807 - (x.toNat - 48)) / 10 < v
   ·rw [if_pos (.inr (.inr g3))] at hrest
    subst hrest
    have g3I : (9223372036854775807 - ((x.toNat : Int) - 48)) / 10 < (v : Int) := by omega
    clear hst g3
    go_wp2_with fail
    go_ret
    exact ⟨rfl, rfl⟩
   ·rw [if_neg (by rintro (h | h | h); exact g1 h; exact g2 h; exact g3 h)] at hrest
    have g3I : ¬ (9223372036854775807 - ((x.toNat : Int) - 48)) / 10 < (v : Int) := by omega
    replace hrest := Hd hrest
    clear hst
    go_wp2_with fail
    go_round
    case rel => exact ⟨j + 1, v * 10 + (x.toNat - 48), by omega, by go_num, by congr 1; omega, by omega, hrest.out⟩
    case measure => simp [intOf]; omega
  ·obtain rfl : j = s.size := by omega
   rw [drop_end, numGo] at hrest
   subst hrest
   go_wp2_with fail
   go_ret
   exact ⟨rfl, rfl⟩
end Go.Proofs.YtjjgbillihedgaaGreatDoor
