/- parts of the proof, merged: TlP3, TlP4, TlLn0, TlV1, TlW -/
import Derived.Lib.LaidTab
import Derived.Handed
import Derived.LaidLaws
import Derived.LaidHandle
import Derived.LaidMore
import Derived.Lib.LaidU8
import Derived.Shelf.Vars
import Derived.MakeChecks
import Derived.SizedLaws
import Derived.Deep.Slices
import Derived.Stop.Joined
import Derived.Test.YtjjgbillihedgaaGreatDoorQy14
import Derived.Test.YtjjgbillihedgaaGreatDoorQy29
import Derived.Test.YtjjgbillihedgaaGreatDoorQy34
set_option linter.constructorNameAsVariable false
set_option linter.unusedSimpArgs false
set_option linter.unusedVariables false
set_option maxHeartbeats 8000000
set_option maxRecDepth 100000
namespace Go.Proofs.YtjjgbillihedgaaGreatDoor
open Go.ChangeShapes Go.WideShapes Go.RowKit Go.Deep
theorem iface_cell {W : World} {l : List (String × DataW Unit)} (h : laidMet Tryz.prog l W) {n nm : String} {d : DataW Unit} (hm : (n, DataW.iface nm d) ∈ l) {g : Nat} {ti : TypeId}
 (hg : Tryz.prog.globalNamed n = some g) (ht : (Tryz.prog.globals[g]?).map (·.type) = some ti) (hi : ∃ ms, Tryz.prog.underlying ti = some (.interface ms)) : ∃ t p, W.cell? ⟨g, 0, none⟩ = some (.iface t p) := by
 obtain ⟨g', t', cs, fuel, p, h1, h2, h3, h4⟩ := Go.Lib.laidMet.reads h hm
 obtain rfl := Option.some.inj (hg.symm.trans h1)
 obtain rfl := Option.some.inj (ht.symm.trans h2)
 obtain ⟨ms, hi⟩ := hi
 obtain ⟨_, u, v, he, _, _⟩ := iface_of_trod hi h4
 have hc := World.var?_cell hg h3 0
 have h0 : cs[0]? = some (.iface u v) := by
  have := congrArg (·[0]?) he
  simpa using this
 exact ⟨u, v, hc.trans h0⟩
theorem is_iface {P : Program} {t : TypeId} (h : (match P.underlying t with | some (.interface _) => true | _ => false) = true) : ∃ ms, P.underlying t = some (.interface ms) := by
 split at h
 ·exact ⟨_, by assumption⟩
 ·cases h
theorem tab_of {W : World} {l : List (String × DataW Unit)} (h : laidMet Tryz.prog l W) (hm : ("internal/strconv.uint64pow10", Lib.tabData .u64 Lib.pow10Tab) ∈ l) : Lib.TabIs Tryz.prog W "internal/strconv.uint64pow10" .u64 Lib.pow10Tab := by
 obtain ⟨g', t', cs, fuel, p, h1, h2, h3, h4⟩ := Go.Lib.laidMet.reads h hm
 obtain rfl := Option.some.inj ((show Tryz.prog.globalNamed "internal/strconv.uint64pow10" = some 1 by kernel_rfl).symm.trans h1)
 obtain rfl := Option.some.inj ((show (Tryz.prog.globals[1]?).map (·.type) = some 204 by kernel_rfl).symm.trans h2)
 have := Lib.cells_of_tab (k := .u64) (zs := Lib.pow10Tab) (n := 20) (e := 22) (by kernel_rfl) (by kernel_rfl) (by kernel_rfl) (by kernel_rfl) h4
 unfold Lib.TabIs
 rw [h3, ← this]
theorem globT_of {W : World} {l : List (String × DataW Unit)} (hp : (l.all fun x => x.2.handleName?.isNone) = true) (h : laidMetH Tryz.prog l W) (hs : W.ShapedOpen Tryz.prog)
 {n1 n2 : String} {d1 d2 : DataW Unit} (h1 : ("strconv.ErrRange", DataW.iface n1 d1) ∈ l) (h2 : ("strconv.ErrSyntax", DataW.iface n2 d2) ∈ l) (h3 : ("internal/strconv.uint64pow10", Lib.tabData .u64 Lib.pow10Tab) ∈ l) : GlobT W := by
 rw [MakeChecks.laidMetH_plain _ _ _ hp] at h
 refine ⟨⟨?_, ?_, ?_, ?_⟩, tab_of h h3⟩
 ·exact iface_cell h h2 (g := 2) (ti := 93) (by kernel_rfl) (by kernel_rfl) (is_iface (by kernel_rfl))
 ·exact iface_cell h h1 (g := 3) (ti := 93) (by kernel_rfl) (by kernel_rfl) (is_iface (by kernel_rfl))
 ·exact Go.Proofs.cell_of_shapedOpen_int (zero := #[.int .i64 0]) (t := 3) hs (of_decide_eq_true (by kernel_rfl)) (by kernel_rfl) rfl (by kernel_rfl) (by kernel_rfl) Tryz.underlying3
 ·obtain ⟨t, p, hm⟩ := iface_cell h h1 (g := 3) (ti := 93) (by kernel_rfl) (by kernel_rfl) (is_iface (by kernel_rfl))
  rcases Nat.lt_or_ge 3 W.heap.size with h' | h'
  ·exact h'
  ·simp [World.cell?, Array.getElem?_eq_none h'] at hm
/-- the wrap of a row's plain change, with what is laid and with the world's shape -/
theorem handed_and_open {H : Type} {enc : TypeId × Value → H} {a : Assume} {C : Checked} {os : Os} {f : FuncId} {fn : Func} {s : ChangeSpec} {conds : List PathCond} {apart fresh handsOn again : Bool} {X : World → Array Value → Prop}
 (hX : ∀ (w w' : World) (args : Array Value), w.heap = w'.heap → X w args → X w' args)
 (own : ownKnob C.prog.godebug = none) (started : os.Started) (noInit : C.prog.inits.idxOf? f = none) (hfn : C.prog.funcs[f]? = some fn)
 (witness : ∃ (w : World) (tape : Tape) (i : Input), w.os = os ∧ (w.forCall tape i).Shaped C.prog ∧ i.vars = [] ∧ Input.okWide C.prog (w.forCall tape i) .any w.heap.size f i ∧
   ((s.pre enc C.prog fn conds apart (w.forCall tape i).memory i.args ∧ X (w.forCall tape i).memory i.args) ∧ sizedMet enc C.prog fn (OpenSpec.ofChange s) apart (w.forCall tape i).memory i.args) ∧ a.holds C.prog (lone (Frame.enter C.prog f i.args .normal) [] (w.forCall tape i)))
 (contract : ∀ (W : World) (base : Nat) (args : Array Value) (ds gs : List (DataW H)) (before : List MemPlace),
   (∀ (j : Nat) t v, fn.params[j]? = some t → args[j]? = some v → Value.okWide C.prog W .any base t v) →
   DataW.Whole enc C.prog fn.params.toList s.vars apart W args.toList ds gs before →
   conds.all (PathCond.test C.prog ⟨fn.params.toList, ds, s.plain.varTypes C.prog, gs⟩) = true →
   (DataW.weightsEach C.prog (fn.params.toList ++ s.plain.varTypes C.prog) (ds ++ gs)).all (· ≤ reachBytes) = true → X W args → W.ShapedOpen C.prog →
   a.holds C.prog (lone (Frame.enter C.prog f args .normal) [] W) →
   Calls C.prog f args W fun e W' => ∃ v, e = .returned v ∧ s.post enc C.prog fn apart fresh handsOn again W args v W') :
 ReturnsInHanded a C os f .any (fun w args => (s.pre enc C.prog fn conds apart w args ∧ X w args) ∧ sizedMet enc C.prog fn (OpenSpec.ofChange s) apart w args) (s.post enc C.prog fn apart fresh handsOn again) := by
 refine returnsInHanded_of_calls own started noInit witness ?_
 intro w tape i _ hsh _ hok hpre hholds
 obtain ⟨_, _, _, fn', hfn', _, _, _, _, hval⟩ := hok
 have e : fn' = fn := Option.some.inj (hfn'.symm.trans hfn)
 subst e
 obtain ⟨⟨⟨ds, gs, before, hw, hc⟩, hx⟩, hz⟩ := hpre
 have hw' := DataW.Whole.of_heap (w' := w.forCall tape i) (by rfl) hw
 refine (contract (w.forCall tape i) w.heap.size i.args ds gs before hval hw' hc (hz.weights hw) (hX _ _ _ (by rfl) hx) hsh hholds).mono fun e W' ⟨v, he, hp⟩ => ?_
 subst he
 exact ChangeSpec.post_blind hp
open Go.Joins
open Rf
open Sg
open Wide
open Tl
theorem open_op {H : Type} {enc : TypeId × Value → H} {w : World} {base : Nat} {spare : Nat → Bool} {held : Bool} {r : Reach} {b0 : Nat} {v : Value} {d : DataW H} {p : List MemPlace}
 (hv : Value.okWide Tryz.prog w r b0 32 v) (h : DataW.Trod enc Tryz.prog w base spare held 32 v d p) : ∃ y : OpD, y.Ok ∧ y.B.size ≤ maxLen ∧ ∃ s t, v = opv y s t ∧ OpIn w y s t := by
 obtain ⟨cs, rfl, hsz⟩ := okWide_struct Tryz.underlying32 hv
 obtain ⟨fuel, hf⟩ := h
 obtain ⟨y, hy, s, t, e, hi, hB⟩ := in_op (by simpa [Value.cells] using hf)
 refine ⟨y, hy, hB, s, t, ?_, hi⟩
 unfold opv
 have : cs = opc y s t := Array.ext' e
 rw [this]
 rfl
end Go.Proofs.YtjjgbillihedgaaGreatDoor
namespace Go.Proofs.YtjjgbillihedgaaGreatDoor
open Go.RowKit
open Rf
open Sg
open Wide
open Tl
namespace Tl
def lE (o : OpD) : List UInt8 := if bL o.K 101 = true then 32 :: (digs (o.E % 4294967296).toNat ++ 32 :: digs (o.E / 4294967296).toNat) else []
def lP (ps : List PartD) : List UInt8 := ps.flatMap fun p => 32 :: (digs p.C.toNat ++ 61 :: valF p.V)
def lC (o : OpD) : List UInt8 := if bL o.K 99 = true then 32 :: digs o.C.toNat else []
def lQ (o : OpD) : List UInt8 := if bL o.K 113 = true then 32 :: (textS o.A.toNat ++ notL ++ textS o.N.toNat) else []
def lD (o : OpD) : List UInt8 := if bL o.K 100 = true then 32 :: line1F (asOpF o.cK o.cE o.cC o.cP) else []
def lU (o : OpD) : List UInt8 := if bL o.K 117 = true then 32 :: digs o.U.toNat else []
def lB (o : OpD) : List UInt8 := if bL o.K 98 = true ∧ 0 < o.B.size then 32 :: hexF (byts o.B) else []
theorem itoa_nat {n : Int} (h : 0 ≤ n) : Lib.itoa n = digs n.toNat := by rw [itoa_eq, if_neg (by omega)]
theorem lP_tail (ps : List PartD) (h : ∀ p ∈ ps, 0 ≤ p.C) : Lib.joinTail [32] (ps.map partT) = lP ps := by
 induction ps with
 | nil => rfl
 | cons p r ih =>
   have e := ih fun q hq => h q (List.mem_cons_of_mem _ hq)
   unfold Lib.joinTail lP at *
   rw [List.map_cons, List.map_cons, List.flatten_cons, e, List.flatMap_cons]
   congr 1
   unfold partT
   rw [itoa_nat (h p (List.mem_cons_self ..))]
   simp
theorem parts_pos {ps : List PartD} (h : isPartsF ps = true) : ∀ p ∈ ps, 1 ≤ p.C ∧ p.C ≤ 24 := fun p hp => by
 rw [← rgo_parts, rgo_iff] at h
 exact (h.2.2 p hp).1
theorem tail_cons (x : List UInt8) (r : List (List UInt8)) : Lib.joinTail [32] (x :: r) = 32 :: (x ++ Lib.joinTail [32] r) := by unfold Lib.joinTail; simp
theorem tail_nil : Lib.joinTail [32] [] = [] := rfl
theorem tail_app (l m : List (List UInt8)) : Lib.joinTail [32] (l ++ m) = Lib.joinTail [32] l ++ Lib.joinTail [32] m := by unfold Lib.joinTail; simp
theorem line_facts (o : OpD) (h : isOpF o = true) : isPartsF o.P = true ∧ (bL o.K 99 = true → 0 ≤ o.C) ∧ (bL o.K 117 = true → 0 ≤ o.U) ∧ (bL o.K 100 = true → o.K = 8 ∧ isCmd o.cK = true) := by
 have hk := isOp_kind h
 have hl := letters2 o.K hk
 rw [isOp_offs o hk] at h
 simp only [Bool.and_eq_true, Bool.not_eq_true'] at h
 obtain ⟨⟨⟨_, h8⟩, _⟩, h12⟩ := h
 unfold off8 at h8
 simp only [Bool.or_eq_false_iff, Bool.and_eq_false_iff, Bool.not_eq_false', decide_eq_false_iff_not] at h8
 refine ⟨h8.1.1.1.1.2, fun h => ?_, fun _ => by have := h8.1.2; omega, fun h => ⟨hl.2.2.2.2 h, ?_⟩⟩
 ·rcases h8.1.1.2 with h1 | h1
  ·omega
  ·rw [h] at h1; cases h1
 ·unfold last12 at h12
  rw [h, Bool.not_true, Bool.false_or, Bool.and_eq_true] at h12
  exact h12.1
theorem line_parts (o : OpD) (ok : o.Ok) (h : isOpF o = true) : lineF o = wordB o.K ++ lE o ++ lP o.P ++ lC o ++ lQ o ++ lD o ++ lU o ++ lB o := by
 have hk := isOp_kind h
 obtain ⟨hp, hC, hU, _⟩ := line_facts o h
 have e0 : lineF o = wordB o.K ++ Lib.joinTail [32] (restF o) := by unfold lineF; rw [if_pos h, Lib.join_cons]
 rw [e0]
 clear e0
 rw [isOp_offs o hk] at h
 simp only [Bool.and_eq_true, Bool.not_eq_true'] at h
 obtain ⟨⟨⟨⟨h4, hD⟩, h8⟩, h10⟩, h12⟩ := h
 have hE := ok.E
 clear ok h8 h10 h12 hD
 obtain ⟨K, E, C, P, A, N, cK, cE, cC, cP, U, B⟩ := o
 unfold u64 at hE
 dsimp only at *
 have i1 : Lib.itoa (idF E) = digs (E % 4294967296).toNat := itoa_nat (by unfold idF; omega)
 have i2 : Lib.itoa (genF E) = digs (E / 4294967296).toNat := itoa_nat (by unfold genF; omega)
 have hT := lP_tail P (fun p hp' => by have := (parts_pos hp p hp').1; omega)
 replace hC : bL K 99 = true → Lib.itoa C = digs C.toNat := fun h => itoa_nat (hC h)
 replace hU : bL K 117 = true → Lib.itoa U = digs U.toNat := fun h => itoa_nat (hU h)
 generalize line1F (asOpF cK cE cC cP) = L1 at *
 have l0 : lP [] = [] := rfl
 rcases kinds11 hk with rfl | rfl | rfl | rfl | rfl | rfl | rfl | rfl | rfl | rfl | rfl
 all_goals
  simp [off4, offE, offC, offP, offQ, offU, offB, nz, namesF] at h4
  simp [bL, namesF] at hC hU
  simp_all [restF, rest1F, handF, lE, lC, lQ, lD, lU, lB, bL, namesF, tail_cons, tail_app, tail_nil, qText]
 have hB : (B = ByteArray.empty) ↔ ¬ 0 < B.size := ⟨fun e => by rw [e]; decide, fun h => ba_nil (by omega)⟩
 by_cases hz : 0 < B.size
 ·rw [if_neg (fun e => hB.1 e hz), if_pos hz, tail_cons, tail_nil, List.append_nil]
 ·rw [if_pos (hB.2 hz), if_neg hz]
  rfl
theorem txt_cons (S l : List UInt8) : text (S ++ 32 :: l) = text S ++ ⟨#[32]⟩ ++ text l := by
 show _ = text S ++ text [32] ++ text l
 rw [text_append, text_append]
 simp
theorem txt_app (X : ByteArray) (l m : List UInt8) : X ++ text (l ++ 32 :: m) = X ++ text l ++ ⟨#[32]⟩ ++ text m := by
 rw [txt_cons, ← ByteArray.append_assoc, ← ByteArray.append_assoc]
theorem txt_app61 (X : ByteArray) (l m : List UInt8) : X ++ text l ++ ⟨#[61]⟩ ++ text m = X ++ text (l ++ 61 :: m) := by
 have : text (l ++ 61 :: m) = text l ++ text [61] ++ text m := by rw [text_append, text_append]; simp
 rw [this, ← ByteArray.append_assoc, ← ByteArray.append_assoc]
 rfl
end Tl
theorem join_two' (q : UInt8) (x y : List UInt8) (r : List (List UInt8)) : Lib.join (x :: y :: r) [q] = x ++ q :: Lib.join (y :: r) [q] := by
 rw [Lib.join_cons, Lib.join_cons]
 unfold Lib.joinTail
 simp
theorem joinV_snoc (q : UInt8) : ∀ (l : List (List UInt8)) (x : List UInt8), l ≠ [] → Lib.join (l ++ [x]) [q] = Lib.join l [q] ++ q :: x
 | [], _, h => absurd rfl h
 | [y], x, _ => by
   show Lib.join (y :: [x]) [q] = _
   rw [join_two', Lib.join_one, Lib.join_one]
 | y :: z :: r, x, _ => by
   have ih := joinV_snoc q (z :: r) x (by simp)
   show Lib.join (y :: z :: (r ++ [x])) [q] = _
   rw [join_two', join_two']
   rw [show z :: (r ++ [x]) = (z :: r) ++ [x] from rfl, ih]
   simp
theorem valueR_c (v : List WI) (hN : v.length ≤ 1000000) (ho : ∀ x ∈ v, x.Ok) (t : Value) (w : World) (hin : InV w t v) :
 Calls Tryz.prog 38 #[t] w fun e w' => e = .returned (.string (text (valF v))) ∧ Below w.heap.size w w' := by
 obtain ⟨a, c, rfl, _⟩ := id hin
 cases hv : v with
 | nil =>
   go_enter Tryz.func38, Tryz.ntmps38
   go_wp2_with fail
   go_ret
   exact ⟨rfl, Below.refl _ _⟩
 | cons v0 vr =>
   rw [← hv]
   have hne : v ≠ [] := by rw [hv]; simp
   clear hv v0 vr
   have hv0 : v.length ≠ 0 := fun h => hne (List.eq_nil_of_length_eq_zero h)
   have e0 : ((v.length : Int) == 0) = false := by rw [beq_eq_false_iff_ne]; omega
   have cT := fun x (h : x ∈ v) => wrefText_c x (ho x h)
   obtain ⟨R, hR⟩ : ∃ R, text (valF v) = R := ⟨_, rfl⟩
   rw [hR]
   unfold valF at hR
   rw [if_neg hv0] at hR
   replace hR := Hd hR
   replace cT := Hd cT
   replace hin := Hd hin
   replace hne := Hd hne
   go_enter Tryz.func38, Tryz.ntmps38
   go_wp2_with fail
   go_loopw [3, 4] (fun s i wr => ∃ k : Nat, k ≤ v.length ∧ i = .int .i64 k ∧ s = .string (text (Lib.join ((v.take k).map textF) [44])) ∧ Below w.heap.size w wr) (fun _ i _ => v.length - (intOf i).toNat)
   case atStart => exact ⟨0, Nat.zero_le _, rfl, rfl, Below.refl _ _⟩
   case round =>
    obtain ⟨k, hk, rfl, rfl, hb⟩ := hrel
    have hbz := hb.size
    by_cases hlt : k < v.length
    ·obtain ⟨g, o, rfl, hgz, c0, c1, c2⟩ := (hin.out.below hb).at k hlt
     have hltI : (k : Int) < (v.length : Int) := by omega
     have hst : v.take (k + 1) = v.take k ++ [v[k]] := List.take_succ_eq_append_getElem hlt
     have cX := cT.out v[k] (List.getElem_mem hlt) wr
     have hmem := List.getElem_mem hlt
     have hlen : (v.take k).length = k := by rw [List.length_take]; omega
     generalize v[k] = x at *
     unfold wv at cX
     obtain ⟨xn, xh, xl⟩ := x
     dsimp only at *
     have hTl := textF_len ⟨xn, xh, xl⟩ (ho _ hmem)
     have hJl := join_le 40 44 ((v.take k).map textF) (fun y hy => by
      obtain ⟨z, hz, rfl⟩ := List.mem_map.1 hy
      exact textF_len z (ho z (List.mem_of_mem_take hz)))
     rw [List.length_map] at hJl
     generalize hT : textF ⟨xn, xh, xl⟩ = T at *
     generalize hL : v.take k = L at *
     generalize hL1 : v.take (k + 1) = L1 at *
     replace hb := Hd hb
     replace cX := Hd cX
     by_cases hk0 : k = 0
     ·have hkI : ¬ (0 : Int) < (k : Int) := by omega
      obtain rfl : L = [] := List.eq_nil_of_length_eq_zero (by omega)
      replace hk0 := Hd hk0
      have hJ : text (Lib.join (List.map textF []) [44]) ++ text T = text (Lib.join (L1.map textF) [44]) := by
       rw [hst, List.nil_append, List.map_cons, List.map_nil, hT, Lib.join_one]
       show text [] ++ text T = text T
       rw [text_append]; rfl
      have q9 : ¬ 9223372036854775807 < (text (Lib.join [] [44])).size + (text T).size := by rw [text_size, text_size]; show ¬ _ < 0 + _; omega
      replace hJ := Hd hJ
      replace hL1 := Hd hL1
      clear hst hT hL
      go_wp2_with fail
      refine cX.out.mono ?_
      rintro e w2 ⟨rfl, hb2⟩
      have hb3 := Hd (below_up hb.out hbz hb2)
      clear hb2 hb cX c0 c1 c2
      go_wp2_with fail
      go_roundw
      case rel => exact ⟨k + 1, by omega, by go_num, by rw [hL1.out, ← hJ.out]; rfl, hb3.out⟩
      case measure => simp [intOf]; omega
     ·have hkI : (0 : Int) < (k : Int) := by omega
      have hLn : L.map textF ≠ [] := by
       intro h
       have := congrArg List.length h
       rw [List.length_map] at this
       simp at this
       rw [this] at hlen; simp at hlen; omega
      have hJ : text (Lib.join (L.map textF) [44]) ++ ⟨#[44]⟩ ++ text T = text (Lib.join (L1.map textF) [44]) := by
       rw [hst, List.map_append, List.map_cons, List.map_nil, hT, joinV_snoc 44 _ _ hLn, text3]
       congr 1
       simp
      have q9 : ¬ 9223372036854775807 < (text (Lib.join (L.map textF) [44])).size + 1 := by rw [text_size]; omega
      have q8 : ¬ 9223372036854775807 < (text (Lib.join (L.map textF) [44])).size + 1 + (text T).size := by rw [text_size, text_size]; omega
      replace hJ := Hd hJ
      replace hL1 := Hd hL1
      clear hst hT hL hLn
      go_wp2_with fail
      refine cX.out.mono ?_
      rintro e w2 ⟨rfl, hb2⟩
      have hb3 := Hd (below_up hb.out hbz hb2)
      clear hb2 hb cX c0 c1 c2
      go_wp2_with fail
      go_roundw
      case rel => exact ⟨k + 1, by omega, by go_num, by rw [hL1.out, ← hJ.out], hb3.out⟩
      case measure => simp [intOf]; omega
    ·obtain rfl : k = v.length := by omega
     have hR2 := hR.out
     rw [List.take_length, hR2]
     replace hb := Hd hb
     go_wp2_with fail
     go_ret
     exact ⟨rfl, hb.out⟩
theorem own_nil8 (w : World) : (w.alloc (.cells #[] 5)).ownsRow w.heap.size 5 1 (.slice (some ⟨w.heap.size, 0, none⟩) 0 0) 0 (bv []) :=
 ownsRow_lit w w.heap.size 5 [] 0 (Nat.le_refl _) rfl (by unfold maxLen; omega)
theorem refHex_c (s : ByteArray) (hs : s.size ≤ 1000000) (w : World) : Calls Tryz.prog 19 #[.string s] w fun e w' => e = .returned (.string (text (hexF (byts s)))) ∧ Below w.heap.size w w' := by
 obtain ⟨i0, hi, hz0, hz1, hz2⟩ := info_parts infoU8
 obtain ⟨R, hR⟩ : ∃ R, text (hexF (byts s)) = R := ⟨_, rfl⟩
 rw [hR]
 replace hR := Hd hR
 have hown0 := Hd (own_nil8 w)
 have hbw0 := Hd (below1 w (.cells #[] 5))
 go_enter Tryz.func19, Tryz.ntmps19
 go_wp2_with fail
 go_loopw [4, 5] (fun b i wr => ∃ j : Nat, j ≤ s.size ∧ i = .int .i64 j ∧ (∃ a c, b = .slice a (2 * j) c ∧ wr.ownsRow w.heap.size 5 1 (.slice a (2 * j) c) (2 * j) (bv (hexF ((byts s).take j)))) ∧ Below w.heap.size w wr) (fun _ i _ => s.size - (intOf i).toNat)
 case atStart => exact ⟨0, Nat.zero_le _, rfl, ⟨_, _, rfl, hown0.out⟩, hbw0.out⟩
 case round =>
  clear hown0 hbw0
  obtain ⟨j, hj, rfl, ⟨b, d, rfl, hown⟩, hb⟩ := hrel
  have hbz := hb.size
  have hlen := Hd (show 2 * j ≤ 2000000 by omega)
  by_cases hlt : j < s.size
  ·have hltI : (j : Int) < (s.size : Int) := by omega
   have hst := take_at s j hlt
   have hxb := s[j].toNat_lt
   obtain ⟨x, hxj⟩ : ∃ x, s[j] = x := ⟨_, rfl⟩
   rw [hxj] at hst hxb
   have a1 : IntKind.u8.wrap ((x.toNat : Int) / 16) = (x.toNat : Int) / 16 := IntWalk.u8_in _ (by omega)
   obtain ⟨H, hHx⟩ : ∃ H, H = (hx (x.toNat / 16)).toNat := ⟨_, rfl⟩
   obtain ⟨L, hLx⟩ : ∃ L, L = (hx (x.toNat % 16)).toNat := ⟨_, rfl⟩
   replace hHx := Hd hHx
   replace hLx := Hd hLx
   replace hst := Hd hst
   replace hown := Hd hown
   replace hb := Hd hb
   go_wp2_with fail
   refine wp_region_held_at (S := fun w1 => True) 16 rfl (by kernel_rfl) (by go_keep) (fun hH => ?_)
   refine wpU 0 ?_ rfl ?_ ?_
   rotate_left
   ·intro u h; (try simp only [ls3]); go_simp; try with_reducible rfl
   try simp only [ls7, Act.put]
   refine wpU 1 ?_ rfl ?_ ?_
   rotate_left
   ·intro u h; (try simp only [ls3]); go_simp; try with_reducible rfl
   try simp only [ls7, Act.put]
   refine wpU 2 ?_ rfl ?_ ?_
   rotate_left
   ·intro u h; (try simp only [ls3]); go_simp; try with_reducible rfl
   try simp only [ls7, Act.put]
   refine wpU 3 ?_ rfl ?_ ?_
   rotate_left
   ·intro u h; (try simp only [ls3]); go_simp; try with_reducible rfl
   try simp only [ls7, Act.put]
   refine wpU 4 ?_ rfl ?_ ?_
   rotate_left
   ·intro u h; (try simp only [ls3]); go_simp; try with_reducible rfl
   try simp only [ls7, Act.put]
   refine wpU 5 ?_ rfl ?_ ?_
   rotate_left
   ·intro u h; (try simp only [ls3]); go_simp; try with_reducible rfl
   try simp only [ls7, Act.put]
   refine wpAnyH_take (i := 6) (v := .int .u8 (H : Int)) rfl (by decide +kernel) (by decide +kernel) (by decide +kernel) (fun _ _ _ h => h) (Or.inl ⟨by rfl, ?_⟩) (by assumption) ?_
   ·intro w1 hSw
    exact exec_hex (i := x.toNat / 16) rfl rfl rfl (by first | rfl | exact a1 | simp | omega) (by omega) hHx.out.symm w1
   try simp only [ls7, Act.put]
   refine wpU 7 ?_ rfl ?_ ?_
   rotate_left
   ·intro u h; (try simp only [ls3]); go_simp; try with_reducible rfl
   try simp only [ls7, Act.put]
   refine wpU 8 ?_ rfl ?_ ?_
   rotate_left
   ·intro u h; (try simp only [ls3]); go_simp; try with_reducible rfl
   try simp only [ls7, Act.put]
   refine wpU 9 ?_ rfl ?_ ?_
   rotate_left
   ·intro u h; (try simp only [ls3]); go_simp; try with_reducible rfl
   try simp only [ls7, Act.put]
   refine wpU 10 ?_ rfl ?_ ?_
   rotate_left
   ·intro u h; (try simp only [ls3]); go_simp; try with_reducible rfl
   try simp only [ls7, Act.put]
   refine wpU 11 ?_ rfl ?_ ?_
   rotate_left
   ·intro u h; (try simp only [ls3]); go_simp; try with_reducible rfl
   try simp only [ls7, Act.put]
   refine wpAnyH_take (i := 12) (v := .int .u8 (L : Int)) rfl (by decide +kernel) (by decide +kernel) (by decide +kernel) (fun _ _ _ h => h) (Or.inl ⟨by rfl, ?_⟩) (by assumption) ?_
   ·intro w1 hSw
    exact exec_hex (i := x.toNat % 16) rfl rfl rfl (by first | rfl | exact a1 | simp | omega) (by omega) hLx.out.symm w1
   try simp only [ls7, Act.put]
   refine wpAnyH_ready (rs := [13]) (by decide +kernel) (by simp) ?_
   refine AllReadyH.cons rfl (fun K hK => ?_) AllReadyH.nil
   (try simp only [ls3])
   go_simp
   refine hK.out _ _ (by go_keep) (fun hH => ?_)
   clear hK K
   try simp only [ls7, Act.put]
   have hown2 := Hd (hown.out.alloc (.cells #[.int .u8 (H : Int), .int .u8 (L : Int)] 5))
   have hb2 := Hd ((below_drewed hb.out).alloc (by exact hbz) (.cells #[.int .u8 (H : Int), .int .u8 (L : Int)] 5))
   have hb2s := hb2.out.size
   have hsrc := src_two wr.drew (H : Int) (L : Int)
   refine wpAnyH_ready (rs := [14]) (by decide +kernel) (by simp) ?_
   refine AllReadyH.cons rfl (fun K hK => ?_) AllReadyH.nil
   (try simp only [ls3])
   rw [if_pos (by rfl)]
   refine step_append_own_src (w := (wr.alloc (.cells #[.int .u8 (H : Int), .int .u8 (L : Int)] 5)).drew) (v := .slice b (2 * j) d) (xv := .slice (some ⟨wr.heap.size, 0, none⟩) 2 2) (.tmp 13) (.tmp 26) 85 85 ?_ w.heap.size 5 i0 (.int .u8 0) 1 1 Tryz.underlying85 hi hz0 hz1 hz2 ?_ ?_ hown2.out ?_ hsrc ?_ ?_ ?_ ?_
   ·rfl
   ·rfl
   ·rfl
   ·rfl
   ·have := hlen.out; unfold maxLen; omega
   ·have := hlen.out; omega
   ·exact hb2s
   intro b' c' w4 hown3 hg1
   have hfin := Hd (Below.grown hb2.out hg1 hb2s (fun q hq => by have := World.ownsRow.lt hown2.out q hq; omega))
   rw [show ([.int .u8 (H : Int), .int .u8 (L : Int)] : List Value) = bv [hx (x.toNat / 16), hx (x.toNat % 16)] by rw [hHx.out, hLx.out]; rfl, ← bv_append] at hown3
   replace hown3 := Hd hown3
   clear hg1 hsrc hown2
   refine hK.out _ _ (by go_keep) (fun hH => ?_)
   clear hK K
   try simp only [ls7, Act.put]
   refine wpU 15 ?_ rfl ?_ ?_
   rotate_left
   ·intro u h; (try simp only [ls3]); go_simp; try with_reducible rfl
   try simp only [ls7, Act.put]
   refine wpAnyH_done (by decide +kernel) ?_ _
   go_wp2_with fail
   go_roundw
   case rel => exact ⟨j + 1, by omega, by go_num, ⟨b', c', by congr 1, by rw [hst.out, hexF_snoc]; exact hown3.out⟩, hfin.out⟩
   case measure => simp [intOf]; omega
  ·obtain rfl : j = s.size := by omega
   rw [take_all] at hown
   have hstr := run_string_own (P := Tryz.prog) wr 85 9 5 Tryz.underlying85 Tryz.underlying5 Tryz.underlying9 hown
   replace hb := Hd hb
   rw [hR.out] at hstr
   clear hown hR
   go_wp2_with fail
   go_ret
   exact ⟨rfl, hb.out⟩
theorem refBytes_c (s : ByteArray) (hs : s.size ≤ 1000000) (w : World) : Calls Tryz.prog 17 #[.string s] w fun e w' => e = .returned (.tuple #[.string (text (bytesF (byts s)).1), .bool (decide ((bytesF (byts s)).2 = 0))]) ∧ Below w.heap.size w w' := by
 obtain ⟨i0, hi, hz0, hz1, hz2⟩ := info_parts infoU8
 obtain ⟨R, hR⟩ : ∃ R, bytesF (byts s) = R := ⟨_, rfl⟩
 rw [hR]
 unfold bytesF at hR
 obtain ⟨R1, R2⟩ := R
 dsimp only
 by_cases hodd : s.size % 2 = 1
 ·rw [unhex_odd _ (by rw [byts_length]; exact hodd)] at hR
  obtain ⟨r1, rfl⟩ := Prod.mk.inj hR
  have e1 := Hd (show text R1 = ⟨#[]⟩ by rw [← r1]; rfl)
  have e2 : ((s.size : Int) % 2 != 0) = true := by
   rw [bne_iff_ne]
   omega
  clear hR r1
  go_enter Tryz.func17, Tryz.ntmps17
  go_wp2_with fail
  (try simp only [Exit.inBlock, Exit.then])
  refine bodyPost_ret (by simp [results, Tryz.results17, go_sem]; try rfl) rfl ?_
  exact ⟨by rw [e1.out]; rfl, Below.refl _ _⟩
 ·have e2 : ((s.size : Int) % 2 != 0) = false := by
   rw [bne_eq_false_iff_eq]
   omega
  replace hR := Hd hR
  have hown0 := Hd (own_nil8 w)
  have hbw0 := Hd (below1 w (.cells #[] 5))
  go_enter Tryz.func17, Tryz.ntmps17
  go_wp2_with fail
  clear e2
  go_loopw [4, 5] (fun b i wr => ∃ j k : Nat, ∃ D : List UInt8, 2 * k = j ∧ j ≤ s.size ∧ i = .int .i64 j ∧ unhexF ((byts s).take j) = some D ∧ D.length = k ∧ (∃ a c, b = .slice a k c ∧ wr.ownsRow w.heap.size 5 1 (.slice a k c) k (bv D)) ∧ Below w.heap.size w wr) (fun _ i _ => s.size - (intOf i).toNat)
  case atStart => exact ⟨0, 0, [], rfl, Nat.zero_le _, rfl, rfl, rfl, ⟨_, _, rfl, hown0.out⟩, hbw0.out⟩
  case round =>
   clear hown0 hbw0
   obtain ⟨j, k, D, hk, hj, rfl, hD, hDl, ⟨b, d, rfl, hown⟩, hb⟩ := hrel
   have hbz := hb.size
   by_cases hlt : j < s.size
   ·have hltI : (j : Int) < (s.size : Int) := by omega
    have hlt1 : j + 1 < s.size := by omega
    have hltJ : (j : Int) + 1 < (s.size : Int) := by omega
    have q2 : ((j : Int) + 1).toNat = j + 1 := by omega
    have q1 : IntKind.i64.wrap ((j : Int) + 1) = (j : Int) + 1 := IntWalk.i64_in _ (by omega)
    obtain ⟨x, hxj⟩ : ∃ x, s[j] = x := ⟨_, rfl⟩
    obtain ⟨y, hyj⟩ : ∃ y, s[j + 1] = y := ⟨_, rfl⟩
    have hbad := fun hb => unhex_bad hk hlt1 hxj hyj hD hb
    have hgood := fun hb => unhex_step hk hlt1 hxj hyj hD hb
    have cx := digit_c x
    have cy := digit_c y
    have bx := dgtF_bd x
    have bY := dgtF_bd y
    generalize dgtF x = X at *
    generalize dgtF y = Y at *
    clear hD
    replace cx := Hd cx
    replace cy := Hd cy
    by_cases hneg : X < 0 ∨ Y < 0
    ·have hr := hR.out
     rw [hbad hneg] at hr
     obtain ⟨r1, rfl⟩ := Prod.mk.inj hr
     have e1 := Hd (show text R1 = ⟨#[]⟩ by rw [← r1]; rfl)
     clear hR hr r1 hbad hgood hown
     replace hb := Hd hb
     by_cases hX : X < 0
     ·clear hneg
      go_wp2_with fail
      refine (cx.out.on _).mono ?_
      rintro e w' ⟨rfl, rfl⟩
      go_wp2_with fail
      refine (cy.out.on _).mono ?_
      rintro e w' ⟨rfl, rfl⟩
      go_wp2_with fail
      (try simp only [Exit.inBlock, Exit.then])
      refine bodyPost_ret (by simp [results, Tryz.results17, go_sem]; try rfl) rfl ?_
      exact ⟨by rw [e1.out]; rfl, hb.out⟩
     ·have hY : Y < 0 := by omega
      clear hneg
      go_wp2_with fail
      refine (cx.out.on _).mono ?_
      rintro e w' ⟨rfl, rfl⟩
      go_wp2_with fail
      refine (cy.out.on _).mono ?_
      rintro e w' ⟨rfl, rfl⟩
      go_wp2_with fail
      (try simp only [Exit.inBlock, Exit.then])
      refine bodyPost_ret (by simp [results, Tryz.results17, go_sem]; try rfl) rfl ?_
      exact ⟨by rw [e1.out]; rfl, hb.out⟩
    ·have hst := hgood hneg
     obtain ⟨H, rfl⟩ := Int.eq_ofNat_of_zero_le (show 0 ≤ X by omega)
     obtain ⟨L, rfl⟩ := Int.eq_ofNat_of_zero_le (show 0 ≤ Y by omega)
     simp only [Int.toNat_natCast] at hst
     clear hbad hgood hneg
     have hHn : ¬ (H : Int) < 0 := by omega
     have hLn : ¬ (L : Int) < 0 := by omega
     replace hst := Hd hst
     replace hb := Hd hb
     replace hown := Hd hown
     replace hDl := Hd hDl
     replace hk := Hd hk
     go_wp2_with fail
     refine (cx.out.on _).mono ?_
     rintro e w' ⟨rfl, rfl⟩
     go_wp2_with fail
     refine (cy.out.on _).mono ?_
     rintro e w' ⟨rfl, rfl⟩
     have hsrc := src_b wr (16 * (H : Int) + (L : Int))
     go_wp2_with (at_builtin; refine wpList_append_own_src _ rfl (.tmp 34) (.tmp 40) 85 85 rfl w.heap.size 5 i0 (.int .u8 0) 1 1 Tryz.underlying85 hi hz0 hz1 hz2 rfl rfl (World.ownsRow.alloc hown.out _) rfl hsrc ?_ ?_ ?_ ?_)
     ·have := hk.out; unfold maxLen; omega
     ·have := hk.out; omega
     ·(try rw [size_alloc]); omega
     intro b' c' w4 hown3 hg1
     have hfin := Hd (Below.grown (hb.out.alloc hbz (.cells #[.int .u8 (16 * (H : Int) + (L : Int))] 5)) hg1 (by rw [size_alloc]; omega) (fun q hq => by have := World.ownsRow.lt hown.out q hq; omega))
     rw [cell_u8 (by omega) (by omega) (show 16 * (H : Int) + (L : Int) = (H : Int) * 16 + (L : Int) by omega), ← bv_append] at hown3
     replace hown3 := Hd hown3
     clear hg1 hsrc hown hb
     go_wp2_with fail
     go_roundw
     case rel => first | exact ⟨j + 2, k + 1, D ++ [UInt8.ofNat (16 * H + L)], by have := hk.out; omega, by omega, by go_num, hst.out, by rw [List.length_append, hDl.out]; rfl, ⟨b', c', rfl, hown3.out⟩, hfin.out⟩ | ((repeat apply Exists.intro); exact ⟨⟨j + 2, k + 1, D ++ [UInt8.ofNat (16 * H + L)], by have := hk.out; omega, by omega, by go_num, hst.out, by rw [List.length_append, hDl.out]; rfl, ⟨b', c', rfl, hown3.out⟩, hfin.out⟩, rfl⟩)
     case measure => simp [intOf]; omega
   ·obtain rfl : j = s.size := by omega
    rw [← byts_length s, List.take_length] at hD
    have hstr := run_string_own (P := Tryz.prog) wr 85 9 5 Tryz.underlying85 Tryz.underlying5 Tryz.underlying9 hown
    have hr := hR.out
    rw [hD] at hr
    obtain ⟨r1, rfl⟩ := Prod.mk.inj hr
    have e1 := Hd (show text R1 = text D by rw [r1])
    clear hR hr r1 hD hown
    replace hb := Hd hb
    go_wp2_with fail
    (try simp only [Exit.inBlock, Exit.then])
    refine bodyPost_ret (by simp [results, Tryz.results17, go_sem]; try rfl) rfl ?_
    exact ⟨by rw [e1.out], hb.out⟩
end Go.Proofs.YtjjgbillihedgaaGreatDoor
