/- parts of the proof, merged: TlP3, TlD2, TlD3, TlZ2 -/
import Derived.Lib.LaidTab
import Derived.Handed
import Derived.LaidLaws
import Derived.LaidHandle
import Derived.LaidMore
import Derived.Lib.LaidU8
import Derived.Shelf.Vars
import Derived.MakeChecks
import Derived.SizedLaws
import Derived.Deep.Slices
import Derived.Stop.Joined
import Derived.Test.YtjjgbillihedgaaGreatDoorQb19
set_option linter.constructorNameAsVariable false
set_option linter.unusedSimpArgs false
set_option linter.unusedVariables false
set_option maxHeartbeats 32000000
set_option maxRecDepth 100000
namespace Go.Proofs.YtjjgbillihedgaaGreatDoor
open Go.ChangeShapes Go.WideShapes Go.RowKit Go.Deep
theorem iface_cell {W : World} {l : List (String × DataW Unit)} (h : laidMet Tryz.prog l W) {n nm : String} {d : DataW Unit} (hm : (n, DataW.iface nm d) ∈ l) {g : Nat} {ti : TypeId}
 (hg : Tryz.prog.globalNamed n = some g) (ht : (Tryz.prog.globals[g]?).map (·.type) = some ti) (hi : ∃ ms, Tryz.prog.underlying ti = some (.interface ms)) : ∃ t p, W.cell? ⟨g, 0, none⟩ = some (.iface t p) := by
 obtain ⟨g', t', cs, fuel, p, h1, h2, h3, h4⟩ := Go.Lib.laidMet.reads h hm
 obtain rfl := Option.some.inj (hg.symm.trans h1)
 obtain rfl := Option.some.inj (ht.symm.trans h2)
 obtain ⟨ms, hi⟩ := hi
 obtain ⟨_, u, v, he, _, _⟩ := iface_of_trod hi h4
 have hc := World.var?_cell hg h3 0
 have h0 : cs[0]? = some (.iface u v) := by
  have := congrArg (·[0]?) he
  simpa using this
 exact ⟨u, v, hc.trans h0⟩
theorem is_iface {P : Program} {t : TypeId} (h : (match P.underlying t with | some (.interface _) => true | _ => false) = true) : ∃ ms, P.underlying t = some (.interface ms) := by
 split at h
 ·exact ⟨_, by assumption⟩
 ·cases h
theorem tab_of {W : World} {l : List (String × DataW Unit)} (h : laidMet Tryz.prog l W) (hm : ("internal/strconv.uint64pow10", Lib.tabData .u64 Lib.pow10Tab) ∈ l) : Lib.TabIs Tryz.prog W "internal/strconv.uint64pow10" .u64 Lib.pow10Tab := by
 obtain ⟨g', t', cs, fuel, p, h1, h2, h3, h4⟩ := Go.Lib.laidMet.reads h hm
 obtain rfl := Option.some.inj ((show Tryz.prog.globalNamed "internal/strconv.uint64pow10" = some 1 by kernel_rfl).symm.trans h1)
 obtain rfl := Option.some.inj ((show (Tryz.prog.globals[1]?).map (·.type) = some 204 by kernel_rfl).symm.trans h2)
 have := Lib.cells_of_tab (k := .u64) (zs := Lib.pow10Tab) (n := 20) (e := 22) (by kernel_rfl) (by kernel_rfl) (by kernel_rfl) (by kernel_rfl) h4
 unfold Lib.TabIs
 rw [h3, ← this]
theorem globT_of {W : World} {l : List (String × DataW Unit)} (hp : (l.all fun x => x.2.handleName?.isNone) = true) (h : laidMetH Tryz.prog l W) (hs : W.ShapedOpen Tryz.prog)
 {n1 n2 : String} {d1 d2 : DataW Unit} (h1 : ("strconv.ErrRange", DataW.iface n1 d1) ∈ l) (h2 : ("strconv.ErrSyntax", DataW.iface n2 d2) ∈ l) (h3 : ("internal/strconv.uint64pow10", Lib.tabData .u64 Lib.pow10Tab) ∈ l) : GlobT W := by
 rw [MakeChecks.laidMetH_plain _ _ _ hp] at h
 refine ⟨⟨?_, ?_, ?_, ?_⟩, tab_of h h3⟩
 ·exact iface_cell h h2 (g := 2) (ti := 93) (by kernel_rfl) (by kernel_rfl) (is_iface (by kernel_rfl))
 ·exact iface_cell h h1 (g := 3) (ti := 93) (by kernel_rfl) (by kernel_rfl) (is_iface (by kernel_rfl))
 ·exact Go.Proofs.cell_of_shapedOpen_int (zero := #[.int .i64 0]) (t := 3) hs (of_decide_eq_true (by kernel_rfl)) (by kernel_rfl) rfl (by kernel_rfl) (by kernel_rfl) Tryz.underlying3
 ·obtain ⟨t, p, hm⟩ := iface_cell h h1 (g := 3) (ti := 93) (by kernel_rfl) (by kernel_rfl) (is_iface (by kernel_rfl))
  rcases Nat.lt_or_ge 3 W.heap.size with h' | h'
  ·exact h'
  ·simp [World.cell?, Array.getElem?_eq_none h'] at hm
/-- the wrap of a row's plain change, with what is laid and with the world's shape -/
theorem handed_and_open {H : Type} {enc : TypeId × Value → H} {a : Assume} {C : Checked} {os : Os} {f : FuncId} {fn : Func} {s : ChangeSpec} {conds : List PathCond} {apart fresh handsOn again : Bool} {X : World → Array Value → Prop}
 (hX : ∀ (w w' : World) (args : Array Value), w.heap = w'.heap → X w args → X w' args)
 (own : ownKnob C.prog.godebug = none) (started : os.Started) (noInit : C.prog.inits.idxOf? f = none) (hfn : C.prog.funcs[f]? = some fn)
 (witness : ∃ (w : World) (tape : Tape) (i : Input), w.os = os ∧ (w.forCall tape i).Shaped C.prog ∧ i.vars = [] ∧ Input.okWide C.prog (w.forCall tape i) .any w.heap.size f i ∧
   ((s.pre enc C.prog fn conds apart (w.forCall tape i).memory i.args ∧ X (w.forCall tape i).memory i.args) ∧ sizedMet enc C.prog fn (OpenSpec.ofChange s) apart (w.forCall tape i).memory i.args) ∧ a.holds C.prog (lone (Frame.enter C.prog f i.args .normal) [] (w.forCall tape i)))
 (contract : ∀ (W : World) (base : Nat) (args : Array Value) (ds gs : List (DataW H)) (before : List MemPlace),
   (∀ (j : Nat) t v, fn.params[j]? = some t → args[j]? = some v → Value.okWide C.prog W .any base t v) →
   DataW.Whole enc C.prog fn.params.toList s.vars apart W args.toList ds gs before →
   conds.all (PathCond.test C.prog ⟨fn.params.toList, ds, s.plain.varTypes C.prog, gs⟩) = true →
   (DataW.weightsEach C.prog (fn.params.toList ++ s.plain.varTypes C.prog) (ds ++ gs)).all (· ≤ reachBytes) = true → X W args → W.ShapedOpen C.prog →
   a.holds C.prog (lone (Frame.enter C.prog f args .normal) [] W) →
   Calls C.prog f args W fun e W' => ∃ v, e = .returned v ∧ s.post enc C.prog fn apart fresh handsOn again W args v W') :
 ReturnsInHanded a C os f .any (fun w args => (s.pre enc C.prog fn conds apart w args ∧ X w args) ∧ sizedMet enc C.prog fn (OpenSpec.ofChange s) apart w args) (s.post enc C.prog fn apart fresh handsOn again) := by
 refine returnsInHanded_of_calls own started noInit witness ?_
 intro w tape i _ hsh _ hok hpre hholds
 obtain ⟨_, _, _, fn', hfn', _, _, _, _, hval⟩ := hok
 have e : fn' = fn := Option.some.inj (hfn'.symm.trans hfn)
 subst e
 obtain ⟨⟨⟨ds, gs, before, hw, hc⟩, hx⟩, hz⟩ := hpre
 have hw' := DataW.Whole.of_heap (w' := w.forCall tape i) (by rfl) hw
 refine (contract (w.forCall tape i) w.heap.size i.args ds gs before hval hw' hc (hz.weights hw) (hX _ _ _ (by rfl) hx) hsh hholds).mono fun e W' ⟨v, he, hp⟩ => ?_
 subst he
 exact ChangeSpec.post_blind hp
end Go.Proofs.YtjjgbillihedgaaGreatDoor
namespace Go.Proofs.YtjjgbillihedgaaGreatDoor
open Go.RowKit
open Rf
open Sg
open Wide
open Tl
namespace Tl
def flatF (os : List OpD) : List UInt8 := os.flatMap fun o => lineF o ++ [10]
def textsF (os : List OpD) : List UInt8 × Int := if os.any (fun o => (lineF o).isEmpty) = true then ([], 4) else (flatF os, 0)
theorem flatF_len (os : List OpD) (h : ∀ o ∈ os, o.Ok) : (flatF os).length ≤ 3000001 * os.length := by
 induction os with
 | nil => simp [flatF]
 | cons o os ih =>
   have h1 := ih (fun x hx => h x (List.mem_cons_of_mem _ hx))
   have h2 := line_len o (h o (List.mem_cons_self ..))
   have e : flatF (o :: os) = (lineF o ++ [10]) ++ flatF os := rfl
   rw [e, List.length_append, List.length_append]
   simp only [List.length_cons, List.length_nil]
   omega
theorem byteCells_str (l : List UInt8) : Lib.strCells (text l) = Lib.byteCells l := rfl
theorem byteCells_app (l m : List UInt8) : Lib.byteCells (l ++ m) = Lib.byteCells l ++ Lib.byteCells m := Lib.byteCells_append l m
end Tl
theorem bof_below {T e : TypeId} {B b : Nat} {bs : List Value} {w w' : World} (h : Lib.IsBuilderF T e B b bs w) (hb : Below w.heap.size w w') : Lib.IsBuilderF T e B b bs w' := by
 have one : ∀ p, Lib.BuilderAtF T e B b p bs w → Lib.BuilderAtF T e B b p bs w' := by
  intro p h
  have hlt := h.lt
  obtain ⟨hB, v, h1, h2, h3⟩ := h
  refine ⟨hB, v, (hb.block b hlt).trans h1, ?_, h3⟩
  exact h2.kept (row := none) ⟨hb.os, hb.tape, hb.output, hb.size, fun k hk _ => hb.block k hk⟩ (by cases v.ownBlock <;> simp)
 rcases h with h | h
 ·exact .inl (one _ h)
 ·exact .inr (one _ h)
theorem bwrite_c (B b : Nat) (l : List UInt8) (m : List UInt8) (w : World) (h : Lib.IsBuilderF 91 5 B b (Lib.byteCells l) w) (hlen : l.length + m.length ≤ 140737488355328) (hBw : B ≤ w.heap.size) :
 Calls Tryz.prog 45 #[.pointer (some ⟨b, 0, none⟩), .string (text m)] w fun e w' => e = .returned (.tuple #[.int .i64 (text m).size, .nilIface]) ∧ (Lib.IsBuilderF 91 5 B b (Lib.byteCells (l ++ m)) w' ∧ Below B w w') := by
 have h1 := Any.Builder_WriteString_f (ρ := Tryz.lays156_ren) { Tryz.lays156 with } Tryz.Builder_Extra_156 B b (Lib.byteCells l) (text m) w h (by rw [Lib.byteCells_length, text_size]; exact hlen) hBw
 refine Calls.mono h1 ?_
 rintro e w' ⟨rfl, h2, h3⟩
 refine ⟨rfl, .inr ?_, h3⟩
 rw [byteCells_app, ← byteCells_str m]
 exact h2
theorem bstr_c (B b : Nat) (l : List UInt8) (w : World) (h : Lib.IsBuilderF 91 5 B b (Lib.byteCells l) w) (hBw : B ≤ w.heap.size) :
 Calls Tryz.prog 46 #[.pointer (some ⟨b, 0, none⟩)] w fun e w' => e = .returned (.string (text l)) ∧ Below B w w' := by
 have h1 := Any.Builder_String_any_f (ρ := Tryz.lays156_ren) { Tryz.lays156 with } Tryz.Builder_Extra_156 B b l w h hBw
 refine Calls.mono h1 ?_
 rintro e w' ⟨rfl, h2, h3⟩
 exact ⟨rfl, h3⟩
theorem bfresh (w : World) : Lib.IsBuilderF 91 5 w.heap.size w.heap.size (Lib.byteCells []) (w.alloc (.cells #[.pointer none, .slice none 0 0] 91)) :=
 Lib.IsBuilderF.of (Lib.fresh_isBuilder _ _ w)
theorem tells_c (os : List OpD) (hn : os.length ≤ 4096) (hs : ∀ o ∈ os, OpSmall o) (v : Value) (w : World) (hin0 : InOps w v os) (hg : GlobT w) :
 Calls Tryz.prog 20 #[v] w fun e w' => e = .returned (.tuple #[.string (text (textsF os).1), .int .i64 (textsF os).2]) ∧ Below w.heap.size w w' := by
 obtain ⟨R, hR⟩ : ∃ R, textsF os = R := ⟨_, rfl⟩
 rw [hR]
 unfold textsF at hR
 have hfl := flatF_len os (fun o h => (hs o h).ok)
 obtain ⟨a, c, rfl, _⟩ := id hin0
 obtain ⟨n, hnn⟩ : ∃ n, os.length = n := ⟨_, rfl⟩
 rw [hnn] at hin0 hn ⊢
 have hb1 := below1 w (.cells #[.pointer none, .slice none 0 0] 91)
 have hB1 := bfresh w
 have hnI : (n : Int) ≤ 4096 := by omega
 have hnG : ¬ ((4096 : Int) < (n : Int)) := by omega
 replace hb1 := Hd hb1
 replace hB1 := Hd hB1
 replace hR := Hd hR
 replace hin0 := Hd hin0
 replace hs := Hd hs
 replace hfl := Hd hfl
 replace hnn := Hd hnn
 go_enter Tryz.func20, Tryz.ntmps20
 go_wp2_with fail
 go_loopw [13] (fun i wr => ∃ k : Nat, k ≤ n ∧ i = .int .i64 k ∧ (os.take k).any (fun o => (lineF o).isEmpty) = false ∧ Lib.IsBuilderF 91 5 w.heap.size w.heap.size (Lib.byteCells (flatF (os.take k))) wr ∧ Below w.heap.size w wr) (fun i _ => n - (intOf i).toNat)
 case atStart => exact ⟨0, Nat.zero_le _, rfl, rfl, hB1.out, hb1.out⟩
 case round =>
  obtain ⟨k, hk, rfl, hany, hB, hb⟩ := hrel
  have hbz := hb.size
  have hBw := hB
  by_cases hlt : k < n
  ·have hko : k < os.length := by rw [hnn.out]; exact hlt
   obtain ⟨g, o, s, t, rfl, hgz, hop, k0, k1, k2, k3, k4, k5, k6, k7, k8, k9, k10, k11⟩ := (hin0.out.below hb).at k hko
   have hst : os.take (k + 1) = os.take k ++ [os[k]] := List.take_succ_eq_append_getElem hko
   have hsm := hs.out os[k] (List.getElem_mem hko)
   have hmem := List.getElem_mem hko
   have hL0 : (flatF (os.take k)).length ≤ 3000001 * 4096 := by
    have := flatF_len (os.take k) (fun o h => (hs.out o (List.mem_of_mem_take h)).ok)
    rw [List.length_take] at this
    have h2 := Nat.mul_le_mul_left 3000001 (show min k os.length ≤ 4096 by omega)
    omega
   have hltI : (k : Int) < (n : Int) := by omega
   obtain ⟨x, hx⟩ : ∃ x, os[k] = x := ⟨_, rfl⟩
   rw [hx] at hop k0 k1 k2 k4 k5 k6 k7 k8 k10 k11 hst hsm hmem
   obtain ⟨sa, sc, rfl, _⟩ := id hop.1
   obtain ⟨ta, tc, rfl, _⟩ := id hop.2
   have hbq := below1 wr (.cells (opc x (.slice sa x.P.length sc) (.slice ta x.cP.length tc)) 32)
   have hb2 := hb.alloc hbz (.cells (opc x (.slice sa x.P.length sc) (.slice ta x.cP.length tc)) 32)
   have hB2 := hB.alloc (.cells (opc x (.slice sa x.P.length sc) (.slice ta x.cP.length tc)) 32)
   have cL := line_c x hsm _ _ _ (hop.below hbq) (hg.on hb2)
   have hll := line_len x hsm.ok
   have hflat1 : flatF (os.take k ++ [x]) = flatF (os.take k) ++ (lineF x ++ [10]) := by unfold flatF; rw [List.flatMap_append]; simp
   have hany1 : (os.take k ++ [x]).any (fun o => (lineF o).isEmpty) = ((os.take k).any (fun o => (lineF o).isEmpty) || (lineF x).isEmpty) := by rw [List.any_append]; simp
   have hall : (lineF x).isEmpty = true → os.any (fun o => (lineF o).isEmpty) = true := fun h => List.any_eq_true.2 ⟨x, hmem, h⟩
   rw [← hst] at hany1 hflat1
   generalize hF : flatF (os.take k) = F at *
   generalize hA : os.take (k + 1) = T1 at *
   generalize os.take k = T0 at *
   obtain ⟨xK, xE, xC, xP, xA, xN, xcK, xcE, xcC, xcP, xU, xB⟩ := x
   generalize hT : lineF ⟨xK, xE, xC, xP, xA, xN, xcK, xcE, xcC, xcP, xU, xB⟩ = T at *
   unfold opv at cL
   unfold opc at hb2 hB2 cL
   dsimp only at *
   have hpr := IsC.new wr 32 #[.int .i64 xK, .int .u64 xE, .int .i64 xC, .slice sa xP.length sc, .int .u32 xA, .int .u32 xN, .int .i64 xcK, .int .u64 xcE, .int .i64 xcC, .slice ta xcP.length tc, .int .i64 xU, .string xB]
   obtain ⟨j0, j1, j2, j3, j4, j5, j6, j7, j8, j9, j10, j11⟩ := cells12 hpr
   have hbz2 := hb2.size
   have e0 := str_empty (text T)
   rw [byts_text] at e0
   clear hB hop hbq hb hpr hx hsm hmem
   replace cL := Hd cL
   replace hb2 := Hd hb2
   replace hB2 := Hd hB2
   replace hany := Hd hany
   replace hany1 := Hd hany1
   replace hflat1 := Hd hflat1
   replace hall := Hd hall
   replace hF := Hd hF
   replace hst := Hd hst
   replace hA := Hd hA
   replace hT := Hd hT
   go_wp2_with fail
   refine cL.out.mono ?_
   rintro e w2 ⟨rfl, hb3⟩
   have hB3 := Hd (bof_below hB2.out hb3)
   have hb4 := Hd (below_up hb2.out hbz2 hb3)
   clear hb3 hb2 hB2 cL j0 j1 j2 j3 j4 j5 j6 j7 j8 j9 j10 j11 k0 k1 k2 k3 k4 k5 k6 k7 k8 k9 k10 k11 hbz2
   have hbz4 := hb4.out.size
   cases T with
   | nil =>
     have hr := hR.out
     rw [if_pos (hall.out rfl)] at hr
     subst hr
     clear hall
     go_wp2_with fail
     (try simp only [Exit.inBlock, Exit.then])
     refine bodyPost_ret (by simp [results, Tryz.results20, go_sem]; try rfl) rfl ?_
     exact ⟨rfl, hb4.out⟩
   | cons t0 tr =>
     have e1 : ((text (t0 :: tr)).toList == []) = false := e0
     clear e0
     have hm : text (t0 :: tr) ++ ⟨#[10]⟩ = text ((t0 :: tr) ++ [10]) := by rw [← text_append]; rfl
     have cW := bwrite_c w.heap.size w.heap.size F ((t0 :: tr) ++ [10]) w2 hB3.out (by rw [List.length_append]; simp only [List.length_cons, List.length_nil] at hll ⊢; omega) hbz4
     rw [← hm] at cW
     have q9 : ¬ 9223372036854775807 < (text (t0 :: tr)).size + 1 := by rw [text_size]; omega
     replace cW := Hd cW
     replace hm := Hd hm
     clear hB3
     go_wp2_with fail
     refine cW.out.mono ?_
     rintro e w3 ⟨rfl, hB5, hb5⟩
     replace hB5 := Hd hB5
     have hb6 := Hd (hb4.out.trans hb5)
     clear hb5 hb4 cW
     go_wp2_with fail
     go_roundw
     case rel => exact ⟨k + 1, by omega, by go_num, by rw [hA.out, hany1.out, hany.out]; rfl, by rw [hA.out, hflat1.out]; exact hB5.out, hb6.out⟩
     case measure => simp [intOf]; omega
  ·obtain rfl : k = n := by omega
   have hto : os.take k = os := List.take_of_length_le (by rw [hnn.out]; exact Nat.le_refl _)
   rw [hto] at hany hB
   have hr := hR.out
   rw [hany, if_neg (by decide)] at hr
   subst hr
   have cS := Hd (bstr_c w.heap.size w.heap.size (flatF os) wr hB hbz)
   clear hany hB hBw hto
   replace hb := Hd hb
   go_wp2_with fail
   refine cS.out.mono ?_
   rintro e w2 ⟨rfl, hb2⟩
   have hb3 := Hd (hb.out.trans hb2)
   clear hb2 cS
   go_wp2_with fail
   (try simp only [Exit.inBlock, Exit.then])
   refine bodyPost_ret (by simp [results, Tryz.results20, go_sem]; try rfl) rfl ?_
   exact ⟨rfl, hb3.out⟩
namespace Tl
def readF : Nat → List OpD → List UInt8 → List OpD × Int
 | 0, acc, _ => (acc, 0)
 | f + 1, acc, l => if l = [] then (acc, 0) else if (Lib.cut l [10]).2.2 = false ∨ (parseOF (Lib.cut l [10]).1).2 ≠ 0 then ([], 4) else if acc.length = 4096 then ([], 5) else readF f (acc ++ [(parseOF (Lib.cut l [10]).1).1]) (Lib.cut l [10]).2.1
def readsF (l : List UInt8) : List OpD × Int := readF (l.length + 1) [] l
/-- each line is short -/
def LinesLe (n : Nat) (l : List UInt8) : Prop := ∀ a x b, l = a ++ x ++ b → (10 : UInt8) ∉ x → x.length ≤ n
theorem LinesLe.tail {n : Nat} {x l : List UInt8} (h : LinesLe n (x ++ l)) : LinesLe n l := fun a y b e hy => h (x ++ a) y b (by rw [e]; simp) hy
theorem LinesLe.head {n : Nat} {x l : List UInt8} (h : LinesLe n (x ++ l)) (hx : (10 : UInt8) ∉ x) : x.length ≤ n := h [] x l (by simp) hx
theorem LinesLe.short {n : Nat} {l : List UInt8} (h : l.length ≤ n) : LinesLe n l := fun a x b e _ => by
 have := congrArg List.length e
 simp only [List.length_append] at this
 omega
theorem LinesLe.cons {n : Nat} {x l : List UInt8} (hx : x.length ≤ n) (hn : (10 : UInt8) ∉ x) (h : LinesLe n l) : LinesLe n (x ++ 10 :: l) := by
 intro a y b e hy
 have e' : x ++ 10 :: l = a ++ (y ++ b) := by rw [e, List.append_assoc]
 rcases List.append_eq_append_iff.1 e' with ⟨d, rfl, h2⟩ | ⟨d, rfl, h2⟩
 ·cases d with
  | nil =>
    cases y with
    | nil => exact Nat.zero_le _
    | cons q y => simp at h2; rw [← h2.1] at hy; simp at hy
  | cons q d =>
    simp at h2
    exact h d y b (by rw [h2.2]; simp) hy
 ·rcases List.append_eq_append_iff.1 h2 with ⟨d2, rfl, h3⟩ | ⟨d2, rfl, h3⟩
  ·simp only [List.length_append] at hx; omega
  ·cases d2 with
   | nil => simp only [List.length_append, List.append_nil] at hx ⊢; omega
   | cons q d2 => simp at h3; rw [← h3.1] at hy; simp at hy
theorem cut_cases (l : List UInt8) : ((10 : UInt8) ∉ l ∧ Lib.cut l [10] = (l, [], false)) ∨ ∃ x y, l = x ++ 10 :: y ∧ (10 : UInt8) ∉ x ∧ Lib.cut l [10] = (x, y, true) := by
 by_cases h : (10 : UInt8) ∈ l
 ·obtain ⟨x, y, rfl, hx⟩ := List.eq_append_cons_of_mem h
  exact .inr ⟨x, y, rfl, hx, cut_one x y 10 hx⟩
 ·exact .inl ⟨h, cut_no l 10 h⟩
theorem dg_nl {l : List UInt8} (h : ∀ c ∈ l, Dg c) : (10 : UInt8) ∉ l := dg_ne h 10 (not_dg (by decide) (by decide))
theorem itoa_nl (n : Int) : (10 : UInt8) ∉ Lib.itoa n := dg_nl (itoa_dg n)
theorem partT_nl (p : PartD) : (10 : UInt8) ∉ partT p := fun h => by
 rcases partT_mem h with h | h | h
 ·revert h; decide
 ·revert h; decide
 ·revert h; unfold Dg; decide
theorem hx_nl (n : Nat) : hx n ≠ 10 := by
 by_cases h : n < 16
 ·have hh : ∀ m : Fin 16, hx m.val ≠ 10 := by decide
  exact hh ⟨n, h⟩
 ·have : hx n = 0 := by
   unfold hx
   rw [List.getD_eq_getElem?_getD, List.getElem?_eq_none (by show hexL.length ≤ _; have : hexL.length = 16 := rfl; omega)]
   rfl
  rw [this]
  decide
theorem hexF_nl (l : List UInt8) : (10 : UInt8) ∉ hexF l := by
 intro h
 unfold hexF at h
 obtain ⟨c, _, h⟩ := List.mem_flatMap.1 h
 rcases List.mem_cons.1 h with h | h
 ·exact hx_nl _ h.symm
 ·exact hx_nl _ (List.mem_singleton.1 h).symm
theorem textS_nl (s : Nat) : (10 : UInt8) ∉ textS s := by
 intro h
 unfold textS at h
 split at h
 ·exact absurd h (by decide)
 ·rcases mem_joinQ h with h | ⟨x, hx, hc⟩
  ·exact absurd h (by decide)
  ·obtain ⟨i, _, rfl⟩ := List.mem_map.1 hx
   exact not_dg (by decide) (by decide) (digs_dg _ _ hc)
theorem qText_nl (a n : Int) : (10 : UInt8) ∉ qText a n := by
 unfold qText
 intro h
 rcases List.mem_append.1 h with h | h
 ·rcases List.mem_append.1 h with h | h
  ·exact textS_nl _ h
  ·revert h; decide
 ·exact textS_nl _ h
theorem wordB_nl (k : Int) : (10 : UInt8) ∉ wordB k := by
 unfold wordB
 by_cases h : k.toNat < 12
 ·have hh : ∀ n : Fin 12, (10 : UInt8) ∉ byts (wordL.getD n.val sS) := by decide
  exact hh ⟨k.toNat, h⟩
 ·have : wordL.getD k.toNat sS = sS := by
   rw [List.getD_eq_getElem?_getD, List.getElem?_eq_none (by show wordL.length ≤ _; have : wordL.length = 12 := rfl; omega)]
   rfl
  rw [this]
  decide
theorem join_nl (l : List (List UInt8)) (h : ∀ x ∈ l, (10 : UInt8) ∉ x) : (10 : UInt8) ∉ Lib.join l [32] := fun hm => by
 rcases mem_joinQ hm with h' | ⟨x, hx, h'⟩
 ·revert h'; decide
 ·exact h x hx h'
theorem hand_nl (e : Int) (ps : List PartD) : ∀ x ∈ handF e ps, (10 : UInt8) ∉ x := by
 intro x hx
 unfold handF at hx
 rcases List.mem_cons.1 hx with rfl | hx
 ·exact itoa_nl _
 rcases List.mem_cons.1 hx with rfl | hx
 ·exact itoa_nl _
 ·obtain ⟨p, _, rfl⟩ := List.mem_map.1 hx
  exact partT_nl p
theorem rest1_nl (o : OpD) : ∀ x ∈ rest1F o, (10 : UInt8) ∉ x := by
 intro x hx
 unfold rest1F at hx
 split at hx
 ·obtain ⟨p, _, rfl⟩ := List.mem_map.1 hx
  exact partT_nl p
 split at hx
 ·exact hand_nl _ _ x hx
 split at hx
 ·exact hand_nl _ _ x hx
 split at hx
 ·exact hand_nl _ _ x hx
 split at hx
 ·rcases List.mem_append.1 hx with hx | hx
  ·exact hand_nl _ _ x hx
  ·rw [List.mem_singleton.1 hx]; exact itoa_nl _
 split at hx
 ·rcases List.mem_append.1 hx with hx | hx
  ·exact hand_nl _ _ x hx
  ·rw [List.mem_singleton.1 hx]; exact itoa_nl _
 split at hx
 ·rw [List.mem_singleton.1 hx]; exact qText_nl _ _
 split at hx
 ·rw [List.mem_singleton.1 hx]; exact itoa_nl _
 split at hx
 ·split at hx
  ·cases hx
  ·rw [List.mem_singleton.1 hx]; exact hexF_nl _
 ·cases hx
theorem line1_nl (o : OpD) : (10 : UInt8) ∉ line1F o := by
 unfold line1F
 split
 ·unfold told1F
  refine join_nl _ fun x hx => ?_
  rcases List.mem_cons.1 hx with rfl | hx
  ·exact wordB_nl _
  ·exact rest1_nl o x hx
 ·simp
theorem line_nl (o : OpD) : (10 : UInt8) ∉ lineF o := by
 unfold lineF
 split
 ·refine join_nl _ fun x hx => ?_
  rcases List.mem_cons.1 hx with rfl | hx
  ·exact wordB_nl _
  ·unfold restF at hx
   split at hx
   ·rw [List.mem_singleton.1 hx]; exact line1_nl _
   ·exact rest1_nl o x hx
 ·simp
theorem isOp_kind {o : OpD} (h : isOpF o = true) : 1 ≤ o.K ∧ o.K ≤ 11 := by
 by_cases k8 : o.K = 8
 ·omega
 ·rw [show isOpF o = is1F o from if_neg k8] at h
  exact is1_kind h
theorem wordB_ne (k : Int) (h0 : 1 ≤ k) (h1 : k ≤ 11) : wordB k ≠ [] := by
 unfold wordB
 have hh : ∀ n : Fin 12, n.val ≠ 0 → byts (wordL.getD n.val sS) ≠ [] := by decide
 exact hh ⟨k.toNat, by omega⟩ (by show k.toNat ≠ 0; omega)
theorem line_ne {o : OpD} (h : isOpF o = true) : lineF o ≠ [] := by
 obtain ⟨h0, h1⟩ := isOp_kind h
 unfold lineF
 rw [if_pos h]
 intro e
 have hc := cut_join (wordB o.K) (restF o) (kind_word o.K h0 h1).2
 rw [e, cut_no [] 32 (by simp)] at hc
 exact wordB_ne o.K h0 h1 (congrArg Prod.fst hc).symm
theorem parse_back (o : OpD) (ok : o.Ok) (h : isOpF o = true) : parseOF (lineF o) = (o, 0) := by
 unfold parseOF
 rw [line_back o ok h, if_neg (by rintro (h' | h'); exact line_ne h h'; exact h' rfl)]
theorem read_back : ∀ (os acc : List OpD) (f : Nat), (∀ o ∈ os, o.Ok ∧ isOpF o = true) → acc.length + os.length ≤ 4096 → os.length < f → readF f acc (flatF os) = (acc ++ os, 0)
 | [], acc, f + 1, _, _, _ => by
   rw [readF, if_pos (show flatF [] = [] from rfl), List.append_nil]
 | o :: os, acc, f + 1, h, hn, hf => by
   obtain ⟨ok, ho⟩ := h o (List.mem_cons_self ..)
   have e : flatF (o :: os) = lineF o ++ 10 :: flatF os := by
    show (lineF o ++ [10]) ++ flatF os = _
    simp
   have hc := cut_one (lineF o) (flatF os) 10 (line_nl o)
   rw [readF, e, if_neg (by simp), hc]
   dsimp only
   rw [parse_back o ok ho]
   simp only [List.length_cons] at hn hf
   rw [if_neg (by simp), if_neg (by omega)]
   rw [read_back os (acc ++ [o]) f (fun x hx => h x (List.mem_cons_of_mem _ hx)) (by simp only [List.length_append, List.length_cons, List.length_nil]; omega) (by omega)]
   simp
 | _, _, 0, _, _, hf => absurd hf (Nat.not_lt_zero _)
theorem flat_count (os : List OpD) : os.length ≤ (flatF os).length := by
 induction os with
 | nil => exact Nat.le_refl _
 | cons o os ih =>
   have e : flatF (o :: os) = lineF o ++ 10 :: flatF os := by
    show (lineF o ++ [10]) ++ flatF os = _
    simp
   rw [e, List.length_append]
   simp only [List.length_cons]
   omega
theorem reads_back (os : List OpD) (h : ∀ o ∈ os, o.Ok ∧ isOpF o = true) (hn : os.length ≤ 4096) : readsF (flatF os) = (os, 0) := by
 have := flat_count os
 exact read_back os [] _ h (by simpa using hn) (by omega)
/-- a line of what can be told -/
theorem join_cons_le (q : UInt8) (x : List UInt8) (r : List (List UInt8)) : (Lib.join (x :: r) [q]).length ≤ x.length + 1 + (Lib.join r [q]).length := by
 cases r with
 | nil => rw [Lib.join_one]; omega
 | cons y r => rw [join_two, List.length_append]; simp only [List.length_cons]; omega
theorem rest1J_le (o : OpD) (ok : o.Ok) (hf : is1F o = true) : (Lib.join (rest1F o) [32]).length ≤ 99020 := by
 obtain ⟨hl, hv⟩ := parts_bound (is1_parts hf)
 have hpj : (Lib.join (o.P.map partT) [32]).length ≤ 98976 := by
  have := join_le 4123 32 (o.P.map partT) (fun x hx => by
   obtain ⟨p, hp, rfl⟩ := List.mem_map.1 hx
   have := partT_len (ok.P p hp)
   have := hv p hp
   omega)
  rw [List.length_map] at this
  omega
 have hh : ∀ ls : List (List UInt8), (Lib.join (Lib.itoa (idF o.E) :: Lib.itoa (genF o.E) :: ls) [32]).length ≤ 44 + (Lib.join ls [32]).length := fun ls => by
  have h1 := join_cons_le 32 (Lib.itoa (idF o.E)) (Lib.itoa (genF o.E) :: ls)
  have h2 := join_cons_le 32 (Lib.itoa (genF o.E)) ls
  have h3 := itoa_le (idF_i64 ok.E)
  have h4 := itoa_le (genF_i64 ok.E)
  omega
 have h1 : ∀ x : List UInt8, (Lib.join [x] [32]).length = x.length := fun x => by rw [Lib.join_one]
 have hcc := itoa_le ok.C
 have hcu := itoa_le ok.U
 unfold rest1F
 split
 ·omega
 split
 ·unfold handF; have := hh (o.P.map partT); omega
 split
 ·unfold handF; have := hh (o.P.map partT); omega
 split
 ·unfold handF; have := hh (o.P.map partT); omega
 split
 ·have := hh [Lib.itoa o.C]
  rw [h1] at this
  show (Lib.join (Lib.itoa (idF o.E) :: Lib.itoa (genF o.E) :: [Lib.itoa o.C]) [32]).length ≤ _
  omega
 split
 ·have := hh [Lib.itoa o.C]
  rw [h1] at this
  show (Lib.join (Lib.itoa (idF o.E) :: Lib.itoa (genF o.E) :: [Lib.itoa o.C]) [32]).length ≤ _
  omega
 split
 ·rw [h1]; have := qText_len o.A o.N; omega
 split
 ·rw [h1]; omega
 split
 ·rename_i k10
  have hb := is1_bytes hf k10
  split
  ·simp [Lib.join]
  ·rw [h1, hexF_len, byts_length]; omega
 ·simp [Lib.join]
theorem line_le (o : OpD) (ok : o.Ok) : (lineF o).length ≤ 99500 := by
 have one : ∀ o : OpD, o.Ok → (line1F o).length ≤ 99030 := fun o ok => by
  unfold line1F
  split
  ·rename_i hf
   unfold told1F
   have h1 := join_cons_le 32 (wordB o.K) (rest1F o)
   have h2 := rest1J_le o ok hf
   have h3 := wordB_len o.K
   omega
  ·simp
 unfold lineF
 split
 ·rename_i hf
  have h1 := join_cons_le 32 (wordB o.K) (restF o)
  have h3 := wordB_len o.K
  unfold restF at h1 ⊢
  by_cases k8 : o.K = 8
  ·rw [if_pos k8] at h1 ⊢
   rw [Lib.join_one] at h1
   have := one (asOpF o.cK o.cE o.cC o.cP) (asOp_ok ok)
   omega
  ·rw [if_neg k8] at h1 ⊢
   rw [show isOpF o = is1F o from if_neg k8] at hf
   have := rest1J_le o ok hf
   omega
 ·simp
theorem flat_lines (os : List OpD) (h : ∀ o ∈ os, o.Ok) : LinesLe 99500 (flatF os) := by
 induction os with
 | nil => exact LinesLe.short (by simp [flatF])
 | cons o os ih =>
   have e : flatF (o :: os) = lineF o ++ 10 :: flatF os := by
    show (lineF o ++ [10]) ++ flatF os = _
    simp
   rw [e]
   exact LinesLe.cons (line_le o (h o (List.mem_cons_self ..))) (line_nl o) (ih fun x hx => h x (List.mem_cons_of_mem _ hx))
end Tl
theorem partsL_c (l m : List PartD) (hN : l.length ≤ 1000000) (hL : ∀ p ∈ l, p.V.length ≤ 1000000) (s t : Value) (w : World) (hin : InS w s l) (hjn : InS w t m) :
 Calls Tryz.prog 42 #[s, t] w fun e w' => e = .returned (.bool (decide (l = m))) ∧ Below w.heap.size w w' := by
 obtain ⟨a, c, rfl, _⟩ := id hin
 obtain ⟨b, d, rfl, _⟩ := id hjn
 obtain ⟨R, hR⟩ : ∃ R, decide (l = m) = R := ⟨_, rfl⟩
 rw [hR]
 replace hR := Hd hR
 replace hin := Hd hin
 replace hjn := Hd hjn
 by_cases hlen : l.length = m.length
 ·have e0 : ((l.length : Int) != (m.length : Int)) = false := by rw [hlen]; simp
  go_enter Tryz.func42, Tryz.ntmps42
  go_wp2_with fail
  go_loopw [5] (fun i wr => ∃ j : Nat, j ≤ l.length ∧ i = .int .i64 j ∧ l.take j = m.take j ∧ Below w.heap.size w wr) (fun i _ => l.length - (intOf i).toNat)
  case atStart => exact ⟨0, Nat.zero_le _, rfl, rfl, Below.refl _ _⟩
  case round =>
   obtain ⟨j, hj, rfl, hno, hb⟩ := hrel
   by_cases hlt : j < l.length
   ·have hlt2 : j < m.length := by omega
    obtain ⟨g, o, ts, hga, hgz, h0, h1, hv⟩ := (hin.out.below hb).at j hlt
    obtain ⟨g', o', ts', hga', hgz', h0', h1', hv'⟩ := (hjn.out.below hb).at j hlt2
    subst hga
    subst hga'
    obtain ⟨va, vc, rfl, _⟩ := id hv
    obtain ⟨ua, uc, rfl, _⟩ := id hv'
    have hltI : (j : Int) < (l.length : Int) := by omega
    have hltJ : (j : Int) < (m.length : Int) := by omega
    have hst : l.take (j + 1) = l.take j ++ [l[j]] := List.take_succ_eq_append_getElem hlt
    have hsu : m.take (j + 1) = m.take j ++ [m[j]] := List.take_succ_eq_append_getElem hlt2
    have hne : l[j] ≠ m[j] → l ≠ m := take_ne hlt hlt2
    have hVL := hL l[j] (List.getElem_mem hlt)
    generalize l[j] = x at *
    generalize m[j] = y at *
    obtain ⟨xC, v⟩ := x
    obtain ⟨yC, u⟩ := y
    dsimp only at *
    by_cases hC : xC = yC
    ·subst hC
     by_cases hvl : v.length = u.length
     ·have e1 : ((v.length : Int) != (u.length : Int)) = false := by rw [hvl]; simp
      replace hv := Hd hv
      replace hv' := Hd hv'
      replace hb := Hd hb
      replace hne := Hd hne
      replace hst := Hd hst
      replace hsu := Hd hsu
      replace hno := Hd hno
      go_wp2_with fail
      go_quiet (fail)
      go_wp2_with fail
      go_loopw [6] (fun i wr2 => ∃ k : Nat, k ≤ v.length ∧ i = .int .i64 k ∧ v.take k = u.take k ∧ Below wr.heap.size wr wr2) (fun i _ => v.length - (intOf i).toNat)
      case atStart => exact ⟨0, Nat.zero_le _, rfl, rfl, below_drewN (Below.refl _ _)⟩
      case round =>
       obtain ⟨k, hk, rfl, hko, hb2⟩ := hrel
       have hbs := hb.out.size
       have hball := below_up hb.out hbs hb2
       have k1 := (hb2.cell (p := ⟨g, o + j * 2 + 1, none⟩) hgz).trans h1
       have k1' := (hb2.cell (p := ⟨g', o' + j * 2 + 1, none⟩) hgz').trans h1'
       clear h0 h0'
       by_cases hlk : k < v.length
       ·have hlk2 : k < u.length := by omega
        obtain ⟨g2, o2, rfl, hgz2, c0, c1, c2⟩ := (hv.out.below hb2).at k hlk
        obtain ⟨g3, o3, rfl, hgz3, c0', c1', c2'⟩ := (hv'.out.below hb2).at k hlk2
        have hlkI : (k : Int) < (v.length : Int) := by omega
        have hlkJ : (k : Int) < (u.length : Int) := by omega
        have hsv : v.take (k + 1) = v.take k ++ [v[k]] := List.take_succ_eq_append_getElem hlk
        have hsw : u.take (k + 1) = u.take k ++ [u[k]] := List.take_succ_eq_append_getElem hlk2
        have hne2 : v[k] ≠ u[k] → l ≠ m := fun h => hne.out (fun e => take_ne hlk hlk2 h (PartD.mk.inj e).2)
        generalize v[k] = x at *
        generalize u[k] = y at *
        clear h1 h1'
        replace hb2 := Hd hb2
        by_cases hxy : x = y
        ·subst hxy
         have hno' : v.take (k + 1) = u.take (k + 1) := by rw [hsv, hsw, hko]
         clear hsv hsw hko hne2
         replace hno' := Hd hno'
         replace hball := Hd hball
         go_wp2_with fail
         go_quiet (fail)
         go_wp2_with fail
         go_roundw
         case rel => exact ⟨k + 1, by omega, by go_num, hno'.out, below_drewN hb2.out⟩
         case measure => simp [intOf]; omega
        ·have hr := hR.out
         rw [decide_eq_false (hne2 hxy)] at hr
         subst hr
         clear hsv hsw hko hne2 hR
         replace hball := Hd hball
         by_cases e1 : x.n = y.n
         ·by_cases e2 : x.h = y.h
          ·have e3 : ¬ x.l = y.l := fun e3 => hxy (WI.ext' e1 e2 e3)
           clear hxy
           obtain ⟨xn, xh, xl⟩ := x
           obtain ⟨yn, yh, yl⟩ := y
           dsimp only at *
           subst e1 e2
           go_wp2_with fail
           go_quiet (fail)
           go_wp2_with fail
           go_ret
           exact ⟨rfl, below_drewN hball.out⟩
          ·clear hxy
           obtain ⟨xn, xh, xl⟩ := x
           obtain ⟨yn, yh, yl⟩ := y
           dsimp only at *
           subst e1
           go_wp2_with fail
           go_quiet (fail)
           go_wp2_with fail
           go_ret
           exact ⟨rfl, below_drewN hball.out⟩
         ·clear hxy
          obtain ⟨xn, xh, xl⟩ := x
          obtain ⟨yn, yh, yl⟩ := y
          dsimp only at *
          go_wp2_with fail
          go_quiet (fail)
          go_wp2_with fail
          go_ret
          exact ⟨rfl, below_drewN hball.out⟩
       ·obtain rfl : k = v.length := by omega
        rw [List.take_length, hvl, List.take_length] at hko
        subst hko
        have hno' : l.take (j + 1) = m.take (j + 1) := by rw [hst.out, hsu.out, hno.out]
        replace hno' := Hd hno'
        replace hball := Hd hball
        clear h1 h1' hb2
        go_wp2_with fail
        go_roundw
        case rel => exact ⟨j + 1, by omega, by go_num, hno'.out, hball.out⟩
        case measure => simp [intOf]; omega
     ·have e1 : ((v.length : Int) != (u.length : Int)) = true := bne_iff_ne.2 (by omega)
      have hr := hR.out
      rw [decide_eq_false (hne (fun e => hvl (by rw [(PartD.mk.inj e).2])))] at hr
      subst hr
      clear hst hsu hno hne hR
      replace hv := Hd hv
      replace hv' := Hd hv'
      replace hb := Hd hb
      go_wp2_with fail
      go_quiet (fail)
      go_wp2_with fail
      go_ret
      exact ⟨rfl, below_drewN hb.out⟩
    ·have hr := hR.out
     rw [decide_eq_false (hne (fun e => hC (PartD.mk.inj e).1))] at hr
     subst hr
     clear hst hsu hno hne hR
     replace hv := Hd hv
     replace hv' := Hd hv'
     replace hb := Hd hb
     go_wp2_with fail
     go_quiet (fail)
     go_wp2_with fail
     go_ret
     exact ⟨rfl, below_drewN hb.out⟩
   ·obtain rfl : j = l.length := by omega
    rw [List.take_length, hlen, List.take_length] at hno
    have hr := hR.out
    rw [decide_eq_true hno] at hr
    subst hr
    clear hno hR
    replace hb := Hd hb
    go_wp2_with fail
    go_ret
    exact ⟨rfl, hb.out⟩
 ·have e0 : ((l.length : Int) != (m.length : Int)) = true := bne_iff_ne.2 (by omega)
  have hr := hR.out
  rw [decide_eq_false (fun e => hlen (by rw [e]))] at hr
  subst hr
  clear hR
  go_enter Tryz.func42, Tryz.ntmps42
  go_wp2_with fail
  go_ret
  exact ⟨rfl, Below.refl _ _⟩
end Go.Proofs.YtjjgbillihedgaaGreatDoor
